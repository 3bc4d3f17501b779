/- linferbegun: printed walks. -/
import Derived.Test.YtfdffeameoejfaaLaw14
import Derived.Test.YtfdffeameoejfaaPBegun
namespace Go.Proofs.Ytfdffeameoejfaa
open Go Go.RowKit
set_option linter.unusedVariables false
set_option linter.unusedSimpArgs false

set_option maxHeartbeats 800000 in
theorem InferBegun_w {A : Option Addr} {gl c : Nat} {l : List N3} {w0 : World} (n self tag : Int) (m : S4) (hl : Ls N3.cells 3 w0 gl A l) (hml : l.length ≤ 9223372036854775807) (hm : m.wfu) :
    Calls Try.prog 18 [(i64 n), (i64 self), (i64 tag), (.slice A l.length c), (S4.val m)].toArray w0 (Ret (fun v w' => v = .bool true ∧ Ext [] w0 w')) := by
  have hE : Ext [] w0 w0 := (Ext.refl w0).more (by simp)
  have hgl := hl.lt (by simp)
  refine enter (vs := [(i64 n), (i64 self), (i64 tag), (.slice A l.length c), (S4.val m)]) Try.func18 rfl Try.ntmps18 rfl ?_
  refine c_rs ?_
  refine s_box (v := (S4.val m)) (cs := (S4.cells m)) rfl rfl (fun b1 w2 hb1 gb1 x3 => ?_)
  have nb1_hE : w0.heap.size ≤ b1 := Nat.le_trans hE.size gb1
  clear gb1
  replace hE := hE.step0 x3
  replace hl := hl.ext0 x3
  clear x3
  refine s1 (v := (.bool false)) (rn_as rfl) ?_
  refine w_end ?_
  refine c_rs ?_
  refine s1 (v := (i64 n)) (rn_mv rfl) ?_
  refine s1 (v := (i64 self)) (rn_mv rfl) ?_
  refine s1 (v := (i64 tag)) (rn_mv rfl) ?_
  rcases Bool.eq_false_or_eq_true (newOkB n self tag) with hok | hok
  ·
    have hokt := newOkB_t hok; have hokn := hokt.1
    refine s_call e53 (vs := [(i64 n), (i64 self), (i64 tag)]) rfl (New_i n self tag (by omega) (by omega) (by omega) (by omega) hokt.2) ?_
    rintro _ w6 ⟨p4, bb5, rfl, hB7, gp4, gbb5, x8⟩
    have np4_hE : w0.heap.size ≤ p4 := Nat.le_trans hE.size gp4
    have op4 : b1 < p4 := Nat.lt_of_lt_of_le hb1.lt gp4
    clear gp4
    have nbb5_hE : w0.heap.size ≤ bb5 := Nat.le_trans hE.size gbb5
    have obb5 : b1 < bb5 := Nat.lt_of_lt_of_le hb1.lt gbb5
    clear gbb5
    replace hE := hE.step0 x8
    replace hb1 := hb1.ext0 x8
    replace hl := hl.ext0 x8
    clear x8
    refine s1 (v := (.tuple #[(ptr p4 0), (i64 0)])) (rn_mv rfl) ?_
    refine s1 (v := (ptr p4 0)) (rn_ex (vs := [(ptr p4 0), (i64 0)]) rfl rfl) ?_
    refine s1 (v := (i64 0)) (rn_ex (vs := [(ptr p4 0), (i64 0)]) rfl rfl) ?_
    refine s1 (v := (ptr p4 0)) (rn_as rfl) ?_
    refine s1 (v := (i64 0)) (rn_as rfl) ?_
    refine w_end ?_
    refine c_seq ?_
    refine c_rs ?_
    refine s1 (v := (i64 0)) (rn_mv rfl) ?_
    refine s1 (v := (.bool false)) (rn_neq (m := 0) (n := 0) rfl rfl) ?_
    refine s1 (v := (.bool false)) (rn_mv rfl) ?_
    refine g_yes rfl rfl rfl rfl ?_
    refine s1 (v := (.slice A l.length c)) (rn_mv rfl) ?_
    refine g_yes rfl rfl rfl rfl ?_
    refine s1 (v := (i64 (l.length : Int))) (rn_len is22 rfl) ?_
    refine g_yes rfl rfl rfl rfl ?_
    refine s1 (v := (.bool (decide (300 < (l.length : Int))))) (rn_gtr (m := (l.length : Int)) (n := 300) rfl rfl) ?_
    refine s1 (v := (.bool (decide (300 < (l.length : Int))))) (rn_pF (b := false) rfl rfl rfl) ?_
    refine w_end ?_
    refine c_if (b := (decide (300 < (l.length : Int)))) rfl (fun h9 => ?_) (fun h9 => ?_)
    ·
      have p10 := of_decide_eq_true h9
      refine c_rs ?_
      refine s_callP e25 (v := (.bool true)) (vs := []) rfl (alive14_c) (fun w11 x12 => ?_)
      replace hE := hE.step0 x12
      replace hb1 := hb1.ext0 x12
      replace hl := hl.ext0 x12
      replace hB7 := hB7.ext0 x12
      clear x12
      refine s1 (v := (.bool true)) (rn_as rfl) ?_
      refine w_end ?_
      refine c_ret ?_
      refine t_ret ?_
      refine bp_ret (rs1 rfl (rv_tmp (v := (.bool true)) rfl)) ?_
      exact ⟨rfl, hE⟩
    ·
      have p13 := of_decide_eq_false h9
      refine c_skip' ?_
      refine t_norm ?_
      refine c_rs ?_
      refine s1 (v := (ptr p4 0)) (rn_mv rfl) ?_
      refine s1 (v := (.slice A l.length c)) (rn_mv rfl) ?_
      have := hl.lt (by simp)
      refine s_call e65 (vs := [(ptr p4 0), (.slice A l.length c)]) rfl (Merge_c (l := l) (gl := gl) (c := c) hB7 hl (by first | omega | (simp only [absR_len, mergeR_len, newL_len]; omega)) (by first | omega | simp) (by first | omega | simp) (by first | omega | simp)) ?_
      rintro _ w14 ⟨rfl, hB15, x16⟩
      replace hE := hE.step1 x16 (by first | (left; simp; done) | (right; omega))
      replace hb1 := hb1.ext1 x16 (by omega)
      replace hl := hl.ext1 x16 (by omega)
      clear x16
      replace hB7 := hB15; clear hB15
      refine w_end ?_
      refine c_rs ?_
      obtain ⟨X, hX⟩ : ∃ X, X = (mergeR (newL (n).toNat self tag) l) := ⟨_, rfl⟩
      rw [← hX] at hB7
      have gX : Good X := by rw [hX]; exact mergeR_good (good_new (by omega) (by omega) (by omega) hokt.2)
      have lX : X.length = n.toNat := by rw [hX, mergeR_len, newL_len]
      have h100 := gX.1
      have hmw : m.wf := ⟨⟨hm.1.1, by have := hm.1.2; omega⟩, ⟨hm.2.1.1, by have := hm.2.1.2; omega⟩, ⟨hm.2.2.1.1, by have := hm.2.2.1.2; omega⟩, ⟨hm.2.2.2.1, by have := hm.2.2.2.2; omega⟩⟩
      refine s1 (v := (ptr p4 0)) (rn_mv rfl) ?_
      refine s_callP e66 (v := (S4.val (suspS X))) (vs := [(ptr p4 0)]) rfl (Suspects_c hB7 gX) (fun w17 x18 => ?_)
      replace hE := hE.step0 x18
      replace hb1 := hb1.ext0 x18
      replace hl := hl.ext0 x18
      replace hB7 := hB7.ext0 x18
      clear x18
      refine s_alloc (cs := [(u32 0), (u32 0), (u32 0), (u32 0)]) z34 rfl (fun b19 w20 hb19 gb19 x21 => ?_)
      have nb19_hE : w0.heap.size ≤ b19 := Nat.le_trans hE.size gb19
      have ob19 : b1 < b19 := Nat.lt_of_lt_of_le hb1.lt gb19
      have ob19_hB7 : p4 < b19 ∧ bb5 < b19 := ⟨Nat.lt_of_lt_of_le hB7.ltp gb19, Nat.lt_of_lt_of_le hB7.ltb gb19⟩
      clear gb19
      replace hE := hE.step0 x21
      replace hb1 := hb1.ext0 x21
      replace hl := hl.ext0 x21
      replace hB7 := hB7.ext0 x21
      clear x21
      refine s_st (v := (S4.val (suspS X))) (vs := (S4.cells (suspS X))) (cs' := (S4.cells (suspS X))) g34.2 rfl rfl rfl rfl hb19 (by simp) rfl rfl (fun w22 h_ x23 => ?_)
      replace hE := hE.step1 x23 (by first | (left; simp; done) | (right; omega))
      replace hb1 := hb1.ext1 x23 (by omega)
      replace hl := hl.ext1 x23 (by omega)
      replace hB7 := hB7.ext1 x23 (by omega)
      clear x23
      replace hb19 := h_; clear h_
      refine w_end ?_
      refine c_rs ?_
      refine s1 (v := (ptr p4 0)) (rn_mv rfl) ?_
      refine s1 (v := (S4.val m)) (rn_lbN (vs := (S4.cells m)) g34 rfl hb1 rfl rfl) ?_
      refine s_call e56 (vs := [(ptr p4 0), (S4.val m)]) rfl (Doubts_c hB7 (by omega) m) ?_
      rintro _ w28 ⟨A24, c25, g26, rfl, hl27, gg26, x29⟩
      have dg26 := gg26.imp_left (fun q => And.intro (Nat.le_trans hE.size q) (And.intro (Nat.lt_of_lt_of_le hb1.lt q) (And.intro (Nat.lt_of_lt_of_le hb19.lt q) (And.intro (Nat.lt_of_lt_of_le hB7.ltp q) (Nat.lt_of_lt_of_le hB7.ltb q)))))
      clear gg26
      replace hE := hE.step0 x29
      replace hb1 := hb1.ext0 x29
      replace hb19 := hb19.ext0 x29
      replace hl := hl.ext0 x29
      replace hB7 := hB7.ext0 x29
      clear x29
      refine s1 (v := (.slice A24 (((doubtsL X (idsS m))).length) c25)) (rn_as rfl) ?_
      refine w_end ?_
      refine c_seq ?_
      refine c_rs ?_
      refine s1 (v := (i64 0)) (rn_as rfl) ?_
      refine w_end ?_
      refine c_block ?_
      replace hB7 : Bk w28 p4 bb5 (bg X ((djs X m).take 0)) := by rw [List.take_zero, bg_nil]; exact hB7
      have hdl := doubtsL_le X (idsS m)
      have hil := idsS_le m
      refine c_loop (fun d a w => ∃ (k30 : Nat) (z_k30 : Nat → Value) , a = Fr 126 (lk [(i64 n), (i64 self), (i64 tag), (.slice A l.length c), (S4.val m), undef, undef, undef, undef, (ptr b1 0), (z_k30 10), (ptr p4 0), (i64 0), (ptr b19 0), (.slice A24 (((doubtsL X (idsS m))).length) c25), (i64 (k30 : Int)), (z_k30 16), (z_k30 17), (z_k30 18), (z_k30 19), undef, undef, (.tuple #[(ptr p4 0), (i64 0)]), (i64 n), (i64 self), (i64 tag), (.tuple #[(ptr p4 0), (i64 0)]), (ptr p4 0), (i64 0), (i64 0), (.bool false), (.bool false), (.slice A l.length c), (i64 (l.length : Int)), (.bool (decide (300 < (l.length : Int)))), (.bool (decide (300 < (l.length : Int)))), undef, (ptr p4 0), (.slice A l.length c), (.tuple #[(S4.val (mergeS (newL (n).toNat self tag) l)), (i64 (mergeE (newL (n).toNat self tag) l))]), (ptr p4 0), (S4.val (suspS X)), (ptr p4 0), (S4.val m), (.slice A24 (((doubtsL X (idsS m))).length) c25), (z_k30 45), (z_k30 46), (z_k30 47), (z_k30 48), (z_k30 49), (z_k30 50), (z_k30 51), (z_k30 52), (z_k30 53), (z_k30 54), (z_k30 55), (z_k30 56), (z_k30 57), (z_k30 58), (z_k30 59), (z_k30 60), (z_k30 61), (z_k30 62), (z_k30 63), (z_k30 64), (z_k30 65), (z_k30 66), (z_k30 67), (z_k30 68), (z_k30 69), (z_k30 70), (z_k30 71), (z_k30 72), (z_k30 73), (z_k30 74), (z_k30 75), (z_k30 76), (z_k30 77), (z_k30 78), (z_k30 79), (z_k30 80), (z_k30 81), (z_k30 82), (z_k30 83), (z_k30 84), (z_k30 85), (z_k30 86), (z_k30 87), (z_k30 88), (z_k30 89), (z_k30 90), (z_k30 91), (z_k30 92), (z_k30 93), (z_k30 94), (z_k30 95), (z_k30 96), (z_k30 97), (z_k30 98), (z_k30 99), (z_k30 100), (z_k30 101), (z_k30 102), undef, undef, undef, undef, undef, undef, undef, undef, undef, undef, undef, undef, undef, undef, undef, undef, undef, undef, undef, undef, undef, undef, undef]) [] ∧ d = ((doubtsL X (idsS m)).length) - k30 ∧ k30 ≤ (doubtsL X (idsS m)).length ∧ Ext [] w0 w ∧ Blk w b1 34 (S4.cells m) ∧ Blk w b19 34 (S4.cells (suspS X)) ∧ Ls N3.cells 3 w gl A l ∧ Bk w p4 bb5 (bg X ((djs X m).take k30)) ∧ Ls N3.cells 3 w g26 A24 (doubtsL X (idsS m))) (((doubtsL X (idsS m)).length) - 0) ?_ ?_
      · exact ⟨0, (lk [(i64 n), (i64 self), (i64 tag), (.slice A l.length c), (S4.val m), undef, undef, undef, undef, (ptr b1 0), (.bool false), (ptr p4 0), (i64 0), (ptr b19 0), (.slice A24 (((doubtsL X (idsS m))).length) c25), (i64 0), undef, undef, undef, undef, undef, undef, (.tuple #[(ptr p4 0), (i64 0)]), (i64 n), (i64 self), (i64 tag), (.tuple #[(ptr p4 0), (i64 0)]), (ptr p4 0), (i64 0), (i64 0), (.bool false), (.bool false), (.slice A l.length c), (i64 (l.length : Int)), (.bool (decide (300 < (l.length : Int)))), (.bool (decide (300 < (l.length : Int)))), undef, (ptr p4 0), (.slice A l.length c), (.tuple #[(S4.val (mergeS (newL (n).toNat self tag) l)), (i64 (mergeE (newL (n).toNat self tag) l))]), (ptr p4 0), (S4.val (suspS X)), (ptr p4 0), (S4.val m), (.slice A24 (((doubtsL X (idsS m))).length) c25), undef, undef, undef, undef, undef, undef, undef, undef, undef, undef, undef, undef, undef, undef, undef, undef, undef, undef, undef, undef, undef, undef, undef, undef, undef, undef, undef, undef, undef, undef, undef, undef, undef, undef, undef, undef, undef, undef, undef, undef, undef, undef, undef, undef, undef, undef, undef, undef, undef, undef, undef, undef, undef, undef, undef, undef, undef, undef, undef, undef, undef, undef, undef, undef, undef, undef, undef, undef, undef, undef, undef, undef, undef, undef, undef, undef, undef, undef, undef, undef, undef]), Fr_congr (by kernel_rfl), rfl, Nat.zero_le _, hE, hb1, hb19, hl, hB7, hl27⟩
      clear hE
      clear hb1
      clear hb19
      clear hl
      clear hB7
      clear hl27
      rintro d a w31 ⟨k30, z_k30, rfl, rfl, hlek30, hE, hb1, hb19, hl, hB7, hl27⟩
      refine c_seq ?_
      refine c_rs ?_
      refine s1 (v := (i64 (k30 : Int))) (rn_mv rfl) ?_
      refine s1 (v := (.slice A24 (((doubtsL X (idsS m))).length) c25)) (rn_mv rfl) ?_
      refine s1 (v := (i64 (((doubtsL X (idsS m))).length : Int))) (rn_len is22 rfl) ?_
      refine s1 (v := (.bool (decide ((k30 : Int) < (((doubtsL X (idsS m))).length : Int))))) (rn_lss (m := (k30 : Int)) (n := (((doubtsL X (idsS m))).length : Int)) rfl rfl) ?_
      refine w_end ?_
      refine c_if (b := (decide ((k30 : Int) < (((doubtsL X (idsS m))).length : Int)))) rfl (fun h32 => ?_) (fun h32 => ?_)
      ·
        have p33 := of_decide_eq_true h32
        refine c_skip' ?_
        refine t_norm ?_
        refine c_seq ?_
        refine c_block ?_
        refine c_rs ?_
        refine s1 (v := (ptr p4 0)) (rn_mv rfl) ?_
        refine s1 (v := (.slice A24 (((doubtsL X (idsS m))).length) c25)) (rn_mv rfl) ?_
        refine s1 (v := (i64 (k30 : Int))) (rn_mv rfl) ?_
        obtain ⟨x37, o34, hx38, hA35, el36⟩ := hl27.el (k := k30) (by omega)
        refine s1 (v := (ptr g26 (o34 + k30 * 3))) (rn_ie is22 rfl hA35 rfl (by omega) (by omega) rfl) ?_
        refine s1 (v := (ptr g26 (o34 + k30 * 3))) (rn_fa fa28_0 rfl rfl) ?_
        refine s1 (v := (i64 x37.of)) (rn_ld1 o3 rfl (el36 0 _ rfl)) ?_
        obtain ⟨xr, hr_1, hr_2, hr_3, hr_4, hr_5, hr_6, hr_7, hr_8⟩ := begun_round gX (by omega) hx38
        refine s_callP e22 (v := (.tuple #[(N3.val (atN (bg X ((djs X m).take k30)) x37.of)), (i64 (atE (bg X ((djs X m).take k30)) x37.of))])) (vs := [(ptr p4 0), (i64 x37.of)]) rfl (AtG_c hB7 x37.of) (fun w39 x40 => ?_)
        replace hE := hE.step0 x40
        replace hb1 := hb1.ext0 x40
        replace hb19 := hb19.ext0 x40
        replace el36 := el36.ext0 x40
        replace hl := hl.ext0 x40
        replace hB7 := hB7.ext0 x40
        replace hl27 := hl27.ext0 x40
        clear x40
        refine s1 (v := (.tuple #[(N3.val (atN (bg X ((djs X m).take k30)) x37.of)), (i64 (atE (bg X ((djs X m).take k30)) x37.of))])) (rn_mv rfl) ?_
        refine s1 (v := (N3.val (atN (bg X ((djs X m).take k30)) x37.of))) (rn_ex (vs := [(N3.val (atN (bg X ((djs X m).take k30)) x37.of)), (i64 (atE (bg X ((djs X m).take k30)) x37.of))]) rfl rfl) ?_
        refine s1 (v := (i64 (atE (bg X ((djs X m).take k30)) x37.of))) (rn_ex (vs := [(N3.val (atN (bg X ((djs X m).take k30)) x37.of)), (i64 (atE (bg X ((djs X m).take k30)) x37.of))]) rfl rfl) ?_
        refine s_alloc (cs := [(i64 0), (i64 0), (i64 0)]) z28 rfl (fun b41 w42 hb41 gb41 x43 => ?_)
        have nb41_hE : w0.heap.size ≤ b41 := Nat.le_trans hE.size gb41
        have ob41 : b19 < b41 := Nat.lt_of_lt_of_le hb19.lt gb41
        have ob41_hB7 : p4 < b41 ∧ bb5 < b41 := ⟨Nat.lt_of_lt_of_le hB7.ltp gb41, Nat.lt_of_lt_of_le hB7.ltb gb41⟩
        replace dg26 := orAnd dg26 ((hl27.lt (by simp)).imp_left (fun q => Nat.lt_of_lt_of_le q gb41))
        clear gb41
        replace hE := hE.step0 x43
        replace hb1 := hb1.ext0 x43
        replace hb19 := hb19.ext0 x43
        replace el36 := el36.ext0 x43
        replace hl := hl.ext0 x43
        replace hB7 := hB7.ext0 x43
        replace hl27 := hl27.ext0 x43
        clear x43
        refine s_st (v := (N3.val (atN (bg X ((djs X m).take k30)) x37.of))) (vs := (N3.cells (atN (bg X ((djs X m).take k30)) x37.of))) (cs' := (N3.cells (atN (bg X ((djs X m).take k30)) x37.of))) g28.2 rfl rfl rfl rfl hb41 (by simp) rfl rfl (fun w44 h_ x45 => ?_)
        replace hE := hE.step1 x45 (by first | (left; simp; done) | (right; omega))
        replace hb1 := hb1.ext1 x45 (by omega)
        replace hb19 := hb19.ext1 x45 (by omega)
        replace el36 := el36.ext1 x45 (by omega)
        replace hl := hl.ext1 x45 (by omega)
        replace hB7 := hB7.ext1 x45 (by omega)
        replace hl27 := hl27.ext1 x45 (by omega)
        clear x45
        replace hb41 := h_; clear h_
        refine s1 (v := (i64 (atE (bg X ((djs X m).take k30)) x37.of))) (rn_as rfl) ?_
        refine w_end ?_
        refine c_rs ?_
        refine s1 (v := (ptr p4 0)) (rn_mv rfl) ?_
        refine s1 (v := (.slice A24 (((doubtsL X (idsS m))).length) c25)) (rn_mv rfl) ?_
        refine s1 (v := (i64 (k30 : Int))) (rn_mv rfl) ?_
        refine s1 (v := (ptr g26 (o34 + k30 * 3))) (rn_ie is22 rfl hA35 rfl (by omega) (by omega) rfl) ?_
        refine s1 (v := (N3.val x37)) (rn_ldN (vs := (N3.cells x37)) g28 rfl rfl el36) ?_
        refine s_call e47 (vs := [(ptr p4 0), (N3.val x37)]) rfl (Take_c hB7 x37) ?_
        rintro _ w46 ⟨rfl, hB47, x48⟩
        replace hE := hE.step1 x48 (by first | (left; simp; done) | (right; omega))
        replace hb1 := hb1.ext1 x48 (by omega)
        replace hb19 := hb19.ext1 x48 (by omega)
        replace hb41 := hb41.ext1 x48 (by omega)
        replace el36 := el36.ext1 x48 (by omega)
        replace hl := hl.ext1 x48 (by omega)
        replace hl27 := hl27.ext1 x48 (by omega)
        clear x48
        replace hB7 := hB47; clear hB47
        refine s1 (v := (.tuple #[(.bool (takes (bg X ((djs X m).take k30)) x37)), (i64 (takeE (bg X ((djs X m).take k30)) x37))])) (rn_mv rfl) ?_
        refine s1 (v := (.bool (takes (bg X ((djs X m).take k30)) x37))) (rn_ex (vs := [(.bool (takes (bg X ((djs X m).take k30)) x37)), (i64 (takeE (bg X ((djs X m).take k30)) x37))]) rfl rfl) ?_
        refine s1 (v := (i64 (takeE (bg X ((djs X m).take k30)) x37))) (rn_ex (vs := [(.bool (takes (bg X ((djs X m).take k30)) x37)), (i64 (takeE (bg X ((djs X m).take k30)) x37))]) rfl rfl) ?_
        refine s1 (v := (.bool (takes (bg X ((djs X m).take k30)) x37))) (rn_as rfl) ?_
        refine s1 (v := (i64 (takeE (bg X ((djs X m).take k30)) x37))) (rn_as rfl) ?_
        refine w_end ?_
        refine c_seq ?_
        refine c_dr (n := 33) [.c (i64 (atE (bg X ((djs X m).take k30)) x37.of)), .c (.bool (decide (atE (bg X ((djs X m).take k30)) x37.of ≠ 0))), .c (.bool (decide (atE (bg X ((djs X m).take k30)) x37.of ≠ 0))), .c (i64 (takeE (bg X ((djs X m).take k30)) x37)), .c (.bool (decide (takeE (bg X ((djs X m).take k30)) x37 ≠ 0))), .c (.bool (decide (takeE (bg X ((djs X m).take k30)) x37 ≠ 0))), .c (.bool (decide (takeE (bg X ((djs X m).take k30)) x37 ≠ 0))), .c (.bool (takes (bg X ((djs X m).take k30)) x37)), .c (.bool (!(takes (bg X ((djs X m).take k30)) x37))), .c (.bool (!(takes (bg X ((djs X m).take k30)) x37))), .c (.bool (!(takes (bg X ((djs X m).take k30)) x37))), .c (ptr b41 2), .c (i64 ((atN (bg X ((djs X m).take k30)) x37.of).kind)), .c (.bool (decide ((atN (bg X ((djs X m).take k30)) x37.of).kind ≠ 1))), .c (.bool (decide ((atN (bg X ((djs X m).take k30)) x37.of).kind ≠ 1))), .c (.bool (decide ((atN (bg X ((djs X m).take k30)) x37.of).kind ≠ 1))), .c (ptr b41 1), .c (i64 ((atN (bg X ((djs X m).take k30)) x37.of).tag)), .c (.slice A24 (((doubtsL X (idsS m))).length) c25), .c (i64 (k30 : Int)), .c (ptr g26 (o34 + k30 * 3)), .c (ptr g26 ((o34 + k30 * 3) + 1)), .c (i64 x37.tag), .c (.bool (decide ((atN (bg X ((djs X m).take k30)) x37.of).tag ≠ x37.tag))), .c (.bool (decide ((atN (bg X ((djs X m).take k30)) x37.of).tag ≠ x37.tag))), .c (.bool (decide ((atN (bg X ((djs X m).take k30)) x37.of).tag ≠ x37.tag))), .c (.slice A24 (((doubtsL X (idsS m))).length) c25), .c (i64 (k30 : Int)), .c (ptr g26 (o34 + k30 * 3)), .c (ptr g26 ((o34 + k30 * 3) + 2)), .c (i64 x37.kind), .c (.bool (decide (x37.kind ≠ 2))), .c (.bool (decide (x37.kind ≠ 2)))] rfl mixed (by kernel_rfl) ?_
        refine q_v (v := (i64 (atE (bg X ((djs X m).take k30)) x37.of))) (fun W hC => rn_mv rfl) ?_
        refine q_v (v := (.bool (decide (atE (bg X ((djs X m).take k30)) x37.of ≠ 0)))) (fun W hC => rn_neq (m := atE (bg X ((djs X m).take k30)) x37.of) (n := 0) rfl rfl) ?_
        refine q_v (v := (.bool (decide (atE (bg X ((djs X m).take k30)) x37.of ≠ 0)))) (fun W hC => rn_mv rfl) ?_
        refine ob_yes rfl rfl rfl (decide_eq_false (by rw [hr_1]; decide)) ?_
        refine q_v (v := (i64 (takeE (bg X ((djs X m).take k30)) x37))) (fun W hC => rn_mv rfl) ?_
        refine ob_yes rfl rfl rfl (decide_eq_false (by rw [hr_1]; decide)) ?_
        refine q_v (v := (.bool (decide (takeE (bg X ((djs X m).take k30)) x37 ≠ 0)))) (fun W hC => rn_neq (m := takeE (bg X ((djs X m).take k30)) x37) (n := 0) rfl rfl) ?_
        refine q_v (v := (.bool (decide (takeE (bg X ((djs X m).take k30)) x37 ≠ 0)))) (fun W hC => rn_pF (b := (decide (atE (bg X ((djs X m).take k30)) x37.of ≠ 0))) rfl (decide_eq_false (by rw [hr_1]; decide)) rfl) ?_
        refine q_v (v := (.bool (decide (takeE (bg X ((djs X m).take k30)) x37 ≠ 0)))) (fun W hC => rn_mv rfl) ?_
        refine ob_yes rfl rfl rfl (decide_eq_false (by rw [hr_7]; decide)) ?_
        refine q_v (v := (.bool (takes (bg X ((djs X m).take k30)) x37))) (fun W hC => rn_mv rfl) ?_
        refine ob_yes rfl rfl rfl (decide_eq_false (by rw [hr_7]; decide)) ?_
        refine q_v (v := (.bool (!(takes (bg X ((djs X m).take k30)) x37)))) (fun W hC => rn_not (b := (takes (bg X ((djs X m).take k30)) x37)) rfl) ?_
        refine q_v (v := (.bool (!(takes (bg X ((djs X m).take k30)) x37)))) (fun W hC => rn_pF (b := (decide (takeE (bg X ((djs X m).take k30)) x37 ≠ 0))) rfl (decide_eq_false (by rw [hr_7]; decide)) rfl) ?_
        refine q_v (v := (.bool (!(takes (bg X ((djs X m).take k30)) x37)))) (fun W hC => rn_mv rfl) ?_
        refine ob_yes rfl rfl rfl (by rw [hr_6]; rfl) ?_
        refine q_v (v := (ptr b41 2)) (fun W hC => rn_fa fa28_2 rfl rfl) ?_
        refine ob_yes rfl rfl rfl (by rw [hr_6]; rfl) ?_
        refine q_v (v := (i64 ((atN (bg X ((djs X m).take k30)) x37.of).kind))) (fun W hC => rn_lb1 o3 rfl (hb41.ext0 hC) rfl) ?_
        refine ob_yes rfl rfl rfl (by rw [hr_6]; rfl) ?_
        refine q_v (v := (.bool (decide ((atN (bg X ((djs X m).take k30)) x37.of).kind ≠ 1)))) (fun W hC => rn_neq (m := (atN (bg X ((djs X m).take k30)) x37.of).kind) (n := 1) rfl rfl) ?_
        refine q_v (v := (.bool (decide ((atN (bg X ((djs X m).take k30)) x37.of).kind ≠ 1)))) (fun W hC => rn_pF (b := (!(takes (bg X ((djs X m).take k30)) x37))) rfl (by rw [hr_6]; rfl) rfl) ?_
        refine q_v (v := (.bool (decide ((atN (bg X ((djs X m).take k30)) x37.of).kind ≠ 1)))) (fun W hC => rn_mv rfl) ?_
        refine ob_yes rfl rfl rfl (decide_eq_false (by rw [hr_2, hr_3]; decide)) ?_
        refine q_v (v := (ptr b41 1)) (fun W hC => rn_fa fa28_1 rfl rfl) ?_
        refine ob_yes rfl rfl rfl (decide_eq_false (by rw [hr_2, hr_3]; decide)) ?_
        refine q_v (v := (i64 ((atN (bg X ((djs X m).take k30)) x37.of).tag))) (fun W hC => rn_lb1 o3 rfl (hb41.ext0 hC) rfl) ?_
        refine ob_yes rfl rfl rfl (decide_eq_false (by rw [hr_2, hr_3]; decide)) ?_
        refine q_v (v := (.slice A24 (((doubtsL X (idsS m))).length) c25)) (fun W hC => rn_mv rfl) ?_
        refine ob_yes rfl rfl rfl (decide_eq_false (by rw [hr_2, hr_3]; decide)) ?_
        refine q_v (v := (i64 (k30 : Int))) (fun W hC => rn_mv rfl) ?_
        refine ob_yes rfl rfl rfl (decide_eq_false (by rw [hr_2, hr_3]; decide)) ?_
        refine q_v (v := (ptr g26 (o34 + k30 * 3))) (fun W hC => rn_ie is22 rfl hA35 rfl (by omega) (by omega) rfl) ?_
        refine ob_yes rfl rfl rfl (decide_eq_false (by rw [hr_2, hr_3]; decide)) ?_
        refine q_v (v := (ptr g26 ((o34 + k30 * 3) + 1))) (fun W hC => rn_fa fa28_1 rfl rfl) ?_
        refine ob_yes rfl rfl rfl (decide_eq_false (by rw [hr_2, hr_3]; decide)) ?_
        refine q_v (v := (i64 x37.tag)) (fun W hC => rn_ld1 o3 rfl ((el36.ext0 hC) 1 _ rfl)) ?_
        refine ob_yes rfl rfl rfl (decide_eq_false (by rw [hr_2, hr_3]; decide)) ?_
        refine q_v (v := (.bool (decide ((atN (bg X ((djs X m).take k30)) x37.of).tag ≠ x37.tag)))) (fun W hC => rn_neq (m := (atN (bg X ((djs X m).take k30)) x37.of).tag) (n := x37.tag) rfl rfl) ?_
        refine q_v (v := (.bool (decide ((atN (bg X ((djs X m).take k30)) x37.of).tag ≠ x37.tag)))) (fun W hC => rn_pF (b := (decide ((atN (bg X ((djs X m).take k30)) x37.of).kind ≠ 1))) rfl (decide_eq_false (by rw [hr_2, hr_3]; decide)) rfl) ?_
        refine q_v (v := (.bool (decide ((atN (bg X ((djs X m).take k30)) x37.of).tag ≠ x37.tag)))) (fun W hC => rn_mv rfl) ?_
        refine ob_yes rfl rfl rfl (decide_eq_false (by rw [hr_2, hr_4]; exact fun h_ => h_ rfl)) ?_
        refine q_v (v := (.slice A24 (((doubtsL X (idsS m))).length) c25)) (fun W hC => rn_mv rfl) ?_
        refine ob_yes rfl rfl rfl (decide_eq_false (by rw [hr_2, hr_4]; exact fun h_ => h_ rfl)) ?_
        refine q_v (v := (i64 (k30 : Int))) (fun W hC => rn_mv rfl) ?_
        refine ob_yes rfl rfl rfl (decide_eq_false (by rw [hr_2, hr_4]; exact fun h_ => h_ rfl)) ?_
        refine q_v (v := (ptr g26 (o34 + k30 * 3))) (fun W hC => rn_ie is22 rfl hA35 rfl (by omega) (by omega) rfl) ?_
        refine ob_yes rfl rfl rfl (decide_eq_false (by rw [hr_2, hr_4]; exact fun h_ => h_ rfl)) ?_
        refine q_v (v := (ptr g26 ((o34 + k30 * 3) + 2))) (fun W hC => rn_fa fa28_2 rfl rfl) ?_
        refine ob_yes rfl rfl rfl (decide_eq_false (by rw [hr_2, hr_4]; exact fun h_ => h_ rfl)) ?_
        refine q_v (v := (i64 x37.kind)) (fun W hC => rn_ld1 o3 rfl ((el36.ext0 hC) 2 _ rfl)) ?_
        refine ob_yes rfl rfl rfl (decide_eq_false (by rw [hr_2, hr_4]; exact fun h_ => h_ rfl)) ?_
        refine q_v (v := (.bool (decide (x37.kind ≠ 2)))) (fun W hC => rn_neq (m := x37.kind) (n := 2) rfl rfl) ?_
        refine q_v (v := (.bool (decide (x37.kind ≠ 2)))) (fun W hC => rn_pF (b := (decide ((atN (bg X ((djs X m).take k30)) x37.of).tag ≠ x37.tag))) rfl (decide_eq_false (by rw [hr_2, hr_4]; exact fun h_ => h_ rfl)) rfl) ?_
        refine ob_end (fun w49 x50 he51 hap52 => ?_)
        replace hE := hE.step0 x50
        replace hb1 := hb1.ext0 x50
        replace hb19 := hb19.ext0 x50
        replace hb41 := hb41.ext0 x50
        replace el36 := el36.ext0 x50
        replace hl := hl.ext0 x50
        replace hB7 := hB7.ext0 x50
        replace hl27 := hl27.ext0 x50
        clear x50
        refine w_end ?_
        refine fr_eq (l' := (lk [(i64 n), (i64 self), (i64 tag), (.slice A l.length c), (S4.val m), undef, undef, undef, undef, (ptr b1 0), (z_k30 10), (ptr p4 0), (i64 0), (ptr b19 0), (.slice A24 (((doubtsL X (idsS m))).length) c25), (i64 (k30 : Int)), (ptr b41 0), (i64 (atE (bg X ((djs X m).take k30)) x37.of)), (.bool (takes (bg X ((djs X m).take k30)) x37)), (i64 (takeE (bg X ((djs X m).take k30)) x37)), undef, undef, (.tuple #[(ptr p4 0), (i64 0)]), (i64 n), (i64 self), (i64 tag), (.tuple #[(ptr p4 0), (i64 0)]), (ptr p4 0), (i64 0), (i64 0), (.bool false), (.bool false), (.slice A l.length c), (i64 (l.length : Int)), (.bool (decide (300 < (l.length : Int)))), (.bool (decide (300 < (l.length : Int)))), undef, (ptr p4 0), (.slice A l.length c), (.tuple #[(S4.val (mergeS (newL (n).toNat self tag) l)), (i64 (mergeE (newL (n).toNat self tag) l))]), (ptr p4 0), (S4.val (suspS X)), (ptr p4 0), (S4.val m), (.slice A24 (((doubtsL X (idsS m))).length) c25), (i64 (k30 : Int)), (.slice A24 (((doubtsL X (idsS m))).length) c25), (i64 (((doubtsL X (idsS m))).length : Int)), (.bool (decide ((k30 : Int) < (((doubtsL X (idsS m))).length : Int)))), (z_k30 49), (z_k30 50), (.tuple #[(N3.val (atN (bg X ((djs X m).take k30)) x37.of)), (i64 (atE (bg X ((djs X m).take k30)) x37.of))]), (ptr p4 0), (.slice A24 (((doubtsL X (idsS m))).length) c25), (i64 (k30 : Int)), (ptr g26 (o34 + k30 * 3)), (ptr g26 (o34 + k30 * 3)), (i64 x37.of), (.tuple #[(N3.val (atN (bg X ((djs X m).take k30)) x37.of)), (i64 (atE (bg X ((djs X m).take k30)) x37.of))]), (N3.val (atN (bg X ((djs X m).take k30)) x37.of)), (i64 (atE (bg X ((djs X m).take k30)) x37.of)), (.tuple #[(.bool (takes (bg X ((djs X m).take k30)) x37)), (i64 (takeE (bg X ((djs X m).take k30)) x37))]), (ptr p4 0), (.slice A24 (((doubtsL X (idsS m))).length) c25), (i64 (k30 : Int)), (ptr g26 (o34 + k30 * 3)), (N3.val x37), (.tuple #[(.bool (takes (bg X ((djs X m).take k30)) x37)), (i64 (takeE (bg X ((djs X m).take k30)) x37))]), (.bool (takes (bg X ((djs X m).take k30)) x37)), (i64 (takeE (bg X ((djs X m).take k30)) x37)), (i64 (atE (bg X ((djs X m).take k30)) x37.of)), (.bool (decide (atE (bg X ((djs X m).take k30)) x37.of ≠ 0))), (.bool (decide (atE (bg X ((djs X m).take k30)) x37.of ≠ 0))), (i64 (takeE (bg X ((djs X m).take k30)) x37)), (.bool (decide (takeE (bg X ((djs X m).take k30)) x37 ≠ 0))), (.bool (decide (takeE (bg X ((djs X m).take k30)) x37 ≠ 0))), (.bool (decide (takeE (bg X ((djs X m).take k30)) x37 ≠ 0))), (.bool (takes (bg X ((djs X m).take k30)) x37)), (.bool (!(takes (bg X ((djs X m).take k30)) x37))), (.bool (!(takes (bg X ((djs X m).take k30)) x37))), (.bool (!(takes (bg X ((djs X m).take k30)) x37))), (ptr b41 2), (i64 ((atN (bg X ((djs X m).take k30)) x37.of).kind)), (.bool (decide ((atN (bg X ((djs X m).take k30)) x37.of).kind ≠ 1))), (.bool (decide ((atN (bg X ((djs X m).take k30)) x37.of).kind ≠ 1))), (.bool (decide ((atN (bg X ((djs X m).take k30)) x37.of).kind ≠ 1))), (ptr b41 1), (i64 ((atN (bg X ((djs X m).take k30)) x37.of).tag)), (.slice A24 (((doubtsL X (idsS m))).length) c25), (i64 (k30 : Int)), (ptr g26 (o34 + k30 * 3)), (ptr g26 ((o34 + k30 * 3) + 1)), (i64 x37.tag), (.bool (decide ((atN (bg X ((djs X m).take k30)) x37.of).tag ≠ x37.tag))), (.bool (decide ((atN (bg X ((djs X m).take k30)) x37.of).tag ≠ x37.tag))), (.bool (decide ((atN (bg X ((djs X m).take k30)) x37.of).tag ≠ x37.tag))), (.slice A24 (((doubtsL X (idsS m))).length) c25), (i64 (k30 : Int)), (ptr g26 (o34 + k30 * 3)), (ptr g26 ((o34 + k30 * 3) + 2)), (i64 x37.kind), (.bool (decide (x37.kind ≠ 2))), (.bool (decide (x37.kind ≠ 2))), undef, undef, undef, undef, undef, undef, undef, undef, undef, undef, undef, undef, undef, undef, undef, undef, undef, undef, undef, undef, undef, undef, undef])) (by kernel_rfl) ?_
        refine c_F (b := (decide (x37.kind ≠ 2))) rfl (decide_eq_false (by rw [hr_5]; decide)) ?_
        refine c_skip' ?_
        refine b_norm ?_
        refine t_norm ?_
        refine c_r ?_
        refine s1 (v := (i64 (k30 : Int))) (rn_mv rfl) ?_
        refine s1 (v := (i64 ((k30 : Int) + 1))) (rn_add (m := (k30 : Int)) (n := 1) rfl rfl (wr64 (by omega) (by omega))) ?_
        refine s1 (v := (i64 ((k30 : Int) + 1))) (rn_as rfl) ?_
        refine w_nil ?_
        refine t_norm ?_
        rw [hr_8] at hB7
        exact ⟨((doubtsL X (idsS m)).length) - (k30 + 1), by omega, k30 + 1, (lk [(i64 n), (i64 self), (i64 tag), (.slice A l.length c), (S4.val m), undef, undef, undef, undef, (ptr b1 0), (z_k30 10), (ptr p4 0), (i64 0), (ptr b19 0), (.slice A24 (((doubtsL X (idsS m))).length) c25), (i64 ((k30 : Int) + 1)), (ptr b41 0), (i64 (atE (bg X ((djs X m).take k30)) x37.of)), (.bool (takes (bg X ((djs X m).take k30)) x37)), (i64 (takeE (bg X ((djs X m).take k30)) x37)), undef, undef, (.tuple #[(ptr p4 0), (i64 0)]), (i64 n), (i64 self), (i64 tag), (.tuple #[(ptr p4 0), (i64 0)]), (ptr p4 0), (i64 0), (i64 0), (.bool false), (.bool false), (.slice A l.length c), (i64 (l.length : Int)), (.bool (decide (300 < (l.length : Int)))), (.bool (decide (300 < (l.length : Int)))), undef, (ptr p4 0), (.slice A l.length c), (.tuple #[(S4.val (mergeS (newL (n).toNat self tag) l)), (i64 (mergeE (newL (n).toNat self tag) l))]), (ptr p4 0), (S4.val (suspS X)), (ptr p4 0), (S4.val m), (.slice A24 (((doubtsL X (idsS m))).length) c25), (i64 (k30 : Int)), (.slice A24 (((doubtsL X (idsS m))).length) c25), (i64 (((doubtsL X (idsS m))).length : Int)), (.bool (decide ((k30 : Int) < (((doubtsL X (idsS m))).length : Int)))), (i64 (k30 : Int)), (i64 ((k30 : Int) + 1)), (.tuple #[(N3.val (atN (bg X ((djs X m).take k30)) x37.of)), (i64 (atE (bg X ((djs X m).take k30)) x37.of))]), (ptr p4 0), (.slice A24 (((doubtsL X (idsS m))).length) c25), (i64 (k30 : Int)), (ptr g26 (o34 + k30 * 3)), (ptr g26 (o34 + k30 * 3)), (i64 x37.of), (.tuple #[(N3.val (atN (bg X ((djs X m).take k30)) x37.of)), (i64 (atE (bg X ((djs X m).take k30)) x37.of))]), (N3.val (atN (bg X ((djs X m).take k30)) x37.of)), (i64 (atE (bg X ((djs X m).take k30)) x37.of)), (.tuple #[(.bool (takes (bg X ((djs X m).take k30)) x37)), (i64 (takeE (bg X ((djs X m).take k30)) x37))]), (ptr p4 0), (.slice A24 (((doubtsL X (idsS m))).length) c25), (i64 (k30 : Int)), (ptr g26 (o34 + k30 * 3)), (N3.val x37), (.tuple #[(.bool (takes (bg X ((djs X m).take k30)) x37)), (i64 (takeE (bg X ((djs X m).take k30)) x37))]), (.bool (takes (bg X ((djs X m).take k30)) x37)), (i64 (takeE (bg X ((djs X m).take k30)) x37)), (i64 (atE (bg X ((djs X m).take k30)) x37.of)), (.bool (decide (atE (bg X ((djs X m).take k30)) x37.of ≠ 0))), (.bool (decide (atE (bg X ((djs X m).take k30)) x37.of ≠ 0))), (i64 (takeE (bg X ((djs X m).take k30)) x37)), (.bool (decide (takeE (bg X ((djs X m).take k30)) x37 ≠ 0))), (.bool (decide (takeE (bg X ((djs X m).take k30)) x37 ≠ 0))), (.bool (decide (takeE (bg X ((djs X m).take k30)) x37 ≠ 0))), (.bool (takes (bg X ((djs X m).take k30)) x37)), (.bool (!(takes (bg X ((djs X m).take k30)) x37))), (.bool (!(takes (bg X ((djs X m).take k30)) x37))), (.bool (!(takes (bg X ((djs X m).take k30)) x37))), (ptr b41 2), (i64 ((atN (bg X ((djs X m).take k30)) x37.of).kind)), (.bool (decide ((atN (bg X ((djs X m).take k30)) x37.of).kind ≠ 1))), (.bool (decide ((atN (bg X ((djs X m).take k30)) x37.of).kind ≠ 1))), (.bool (decide ((atN (bg X ((djs X m).take k30)) x37.of).kind ≠ 1))), (ptr b41 1), (i64 ((atN (bg X ((djs X m).take k30)) x37.of).tag)), (.slice A24 (((doubtsL X (idsS m))).length) c25), (i64 (k30 : Int)), (ptr g26 (o34 + k30 * 3)), (ptr g26 ((o34 + k30 * 3) + 1)), (i64 x37.tag), (.bool (decide ((atN (bg X ((djs X m).take k30)) x37.of).tag ≠ x37.tag))), (.bool (decide ((atN (bg X ((djs X m).take k30)) x37.of).tag ≠ x37.tag))), (.bool (decide ((atN (bg X ((djs X m).take k30)) x37.of).tag ≠ x37.tag))), (.slice A24 (((doubtsL X (idsS m))).length) c25), (i64 (k30 : Int)), (ptr g26 (o34 + k30 * 3)), (ptr g26 ((o34 + k30 * 3) + 2)), (i64 x37.kind), (.bool (decide (x37.kind ≠ 2))), (.bool (decide (x37.kind ≠ 2))), undef, undef, undef, undef, undef, undef, undef, undef, undef, undef, undef, undef, undef, undef, undef, undef, undef, undef, undef, undef, undef, undef, undef]), Fr_congr (by kernel_rfl), rfl, by omega, hE, hb1, hb19, hl, hB7, hl27⟩
      ·
        have p53 := of_decide_eq_false h32
        refine c_exit ?_
        refine t_exit ?_
        refine t_exit ?_
        refine b_here ?_
        refine t_norm ?_
        refine c_rs ?_
        have hkl : k30 = (djs X m).length := by have := doubts_len X m; omega
        rw [hkl, List.take_length] at hB7
        have hL := begun_law gX hmw
        have hbl := bg_len X (djs X m)
        have hLn : (X.length : Int) = n := by omega
        rw [hLn] at hL
        have hgb := bg_good gX (djs X m)
        have hgl2 : (doubtsL (bg X (djs X m)) (idsS m)).length = 0 := by rw [hL.2]; rfl
        refine s1 (v := (i64 n)) (rn_mv rfl) ?_
        refine s_callP e67 (v := (.tuple #[(S4.val (upToS n)), (i64 0)])) (vs := [(i64 n)]) rfl (Full_c n (by omega) (by omega) _) (fun w54 x55 => ?_)
        replace hE := hE.step0 x55
        replace hb1 := hb1.ext0 x55
        replace hb19 := hb19.ext0 x55
        replace hl := hl.ext0 x55
        replace hB7 := hB7.ext0 x55
        replace hl27 := hl27.ext0 x55
        clear x55
        refine s1 (v := (.tuple #[(S4.val (upToS n)), (i64 0)])) (rn_mv rfl) ?_
        refine s1 (v := (S4.val (upToS n))) (rn_ex (vs := [(S4.val (upToS n)), (i64 0)]) rfl rfl) ?_
        refine s1 (v := (i64 0)) (rn_ex (vs := [(S4.val (upToS n)), (i64 0)]) rfl rfl) ?_
        refine s_alloc (cs := [(u32 0), (u32 0), (u32 0), (u32 0)]) z34 rfl (fun b56 w57 hb56 gb56 x58 => ?_)
        have nb56_hE : w0.heap.size ≤ b56 := Nat.le_trans hE.size gb56
        have ob56 : b19 < b56 := Nat.lt_of_lt_of_le hb19.lt gb56
        have ob56_hB7 : p4 < b56 ∧ bb5 < b56 := ⟨Nat.lt_of_lt_of_le hB7.ltp gb56, Nat.lt_of_lt_of_le hB7.ltb gb56⟩
        replace dg26 := orAnd dg26 ((hl27.lt (by simp)).imp_left (fun q => Nat.lt_of_lt_of_le q gb56))
        clear gb56
        replace hE := hE.step0 x58
        replace hb1 := hb1.ext0 x58
        replace hb19 := hb19.ext0 x58
        replace hl := hl.ext0 x58
        replace hB7 := hB7.ext0 x58
        replace hl27 := hl27.ext0 x58
        clear x58
        refine s_st (v := (S4.val (upToS n))) (vs := (S4.cells (upToS n))) (cs' := (S4.cells (upToS n))) g34.2 rfl rfl rfl rfl hb56 (by simp) rfl rfl (fun w59 h_ x60 => ?_)
        replace hE := hE.step1 x60 (by first | (left; simp; done) | (right; omega))
        replace hb1 := hb1.ext1 x60 (by omega)
        replace hb19 := hb19.ext1 x60 (by omega)
        replace hl := hl.ext1 x60 (by omega)
        replace hB7 := hB7.ext1 x60 (by omega)
        replace hl27 := hl27.ext1 x60 (by omega)
        clear x60
        replace hb56 := h_; clear h_
        refine s1 (v := (i64 0)) (rn_as rfl) ?_
        refine w_end ?_
        refine c_seq ?_
        refine c_dr (n := 14) [.c (.bool true), .c (.bool true), .c (ptr p4 0), .c (S4.val (suspS (bg X (djs X m)))), .c (S4.val (suspS X)), .c (S4.val m), .c (S4.val (upToS n)), .c (S4.val (meetS m (upToS n))), .c (S4.val (unionS (suspS X) (meetS m (upToS n)))), .c (.bool (decide ((suspS (bg X (djs X m))) = (unionS (suspS X) (meetS m (upToS n)))))), .c (.bool (decide ((suspS (bg X (djs X m))) = (unionS (suspS X) (meetS m (upToS n)))))), .c (.bool (decide ((suspS (bg X (djs X m))) = (unionS (suspS X) (meetS m (upToS n)))))), .c (ptr p4 0), .c (S4.val m)] rfl mixed (by kernel_rfl) ?_
        refine q_call e25 (v := (.bool true)) (vs := []) rfl (fun W hC => alive14_c) ?_
        refine q_v (v := (.bool true)) (fun W hC => rn_mv rfl) ?_
        refine ob_yes rfl rfl rfl rfl ?_
        refine q_v (v := (ptr p4 0)) (fun W hC => rn_mv rfl) ?_
        refine ob_yes rfl rfl rfl rfl ?_
        refine q_call e66 (v := (S4.val (suspS (bg X (djs X m))))) (vs := [(ptr p4 0)]) rfl (fun W hC => Suspects_c (hB7.ext0 hC) (bg_good gX _)) ?_
        refine ob_yes rfl rfl rfl rfl ?_
        refine q_v (v := (S4.val (suspS X))) (fun W hC => rn_lbN (vs := (S4.cells (suspS X))) g34 rfl (hb19.ext0 hC) rfl rfl) ?_
        refine ob_yes rfl rfl rfl rfl ?_
        refine q_v (v := (S4.val m)) (fun W hC => rn_lbN (vs := (S4.cells m)) g34 rfl (hb1.ext0 hC) rfl rfl) ?_
        refine ob_yes rfl rfl rfl rfl ?_
        refine q_v (v := (S4.val (upToS n))) (fun W hC => rn_lbN (vs := (S4.cells (upToS n))) g34 rfl (hb56.ext0 hC) rfl rfl) ?_
        refine ob_yes rfl rfl rfl rfl ?_
        refine q_call e32 (v := (S4.val (meetS m (upToS n)))) (vs := [(S4.val m), (S4.val (upToS n))]) rfl (fun W hC => Meet_c m (upToS n) _) ?_
        refine ob_yes rfl rfl rfl rfl ?_
        refine q_call e68 (v := (S4.val (unionS (suspS X) (meetS m (upToS n))))) (vs := [(S4.val (suspS X)), (S4.val (meetS m (upToS n)))]) rfl (fun W hC => Union_c (suspS X) (meetS m (upToS n)) _) ?_
        refine ob_yes rfl rfl rfl rfl ?_
        refine q_v (v := (.bool (decide ((suspS (bg X (djs X m))) = (unionS (suspS X) (meetS m (upToS n))))))) (fun W hC => eq34 (a := (suspS (bg X (djs X m)))) (b := (unionS (suspS X) (meetS m (upToS n)))) rfl rfl) ?_
        refine q_v (v := (.bool (decide ((suspS (bg X (djs X m))) = (unionS (suspS X) (meetS m (upToS n))))))) (fun W hC => rn_pT (b := true) rfl rfl rfl) ?_
        refine q_v (v := (.bool (decide ((suspS (bg X (djs X m))) = (unionS (suspS X) (meetS m (upToS n))))))) (fun W hC => rn_mv rfl) ?_
        refine ob_yes rfl rfl rfl (decide_eq_true hL.1) ?_
        refine q_v (v := (ptr p4 0)) (fun W hC => rn_mv rfl) ?_
        refine ob_yes rfl rfl rfl (decide_eq_true hL.1) ?_
        refine q_v (v := (S4.val m)) (fun W hC => rn_lbN (vs := (S4.cells m)) g34 rfl (hb1.ext0 hC) rfl rfl) ?_
        refine ob_end (fun w61 x62 he63 hap64 => ?_)
        replace hE := hE.step0 x62
        replace hb1 := hb1.ext0 x62
        replace hb19 := hb19.ext0 x62
        replace hb56 := hb56.ext0 x62
        replace hl := hl.ext0 x62
        replace hB7 := hB7.ext0 x62
        replace hl27 := hl27.ext0 x62
        clear x62
        refine g_yes rfl rfl rfl (decide_eq_true hL.1) ?_
        refine s_call e56 (vs := [(ptr p4 0), (S4.val m)]) rfl (Doubts_c hB7 (by omega) m) ?_
        rintro _ w69 ⟨A65, c66, g67, rfl, hl68, gg67, x70⟩
        have dg67 := gg67.imp_left (fun q => And.intro (Nat.le_trans hE.size q) (And.intro (Nat.lt_of_lt_of_le hb1.lt q) (And.intro (Nat.lt_of_lt_of_le hb19.lt q) (And.intro (Nat.lt_of_lt_of_le hb56.lt q) (And.intro (Nat.lt_of_lt_of_le hB7.ltp q) (Nat.lt_of_lt_of_le hB7.ltb q))))))
        clear gg67
        replace hE := hE.step0 x70
        replace hb1 := hb1.ext0 x70
        replace hb19 := hb19.ext0 x70
        replace hb56 := hb56.ext0 x70
        replace hl := hl.ext0 x70
        replace hB7 := hB7.ext0 x70
        replace hl27 := hl27.ext0 x70
        clear x70
        refine g_yes rfl rfl rfl (decide_eq_true hL.1) ?_
        refine s1 (v := (i64 (((doubtsL (bg X (djs X m)) (idsS m))).length : Int))) (rn_len is22 rfl) ?_
        refine g_yes rfl rfl rfl (decide_eq_true hL.1) ?_
        refine s1 (v := (.bool (decide ((((doubtsL (bg X (djs X m)) (idsS m))).length : Int) = 0)))) (rn_eql (m := (((doubtsL (bg X (djs X m)) (idsS m))).length : Int)) (n := 0) rfl rfl) ?_
        refine s1 (v := (.bool (decide ((((doubtsL (bg X (djs X m)) (idsS m))).length : Int) = 0)))) (rn_pT (b := (decide ((suspS (bg X (djs X m))) = (unionS (suspS X) (meetS m (upToS n)))))) rfl (decide_eq_true hL.1) rfl) ?_
        refine s1 (v := (.bool (decide ((((doubtsL (bg X (djs X m)) (idsS m))).length : Int) = 0)))) (rn_as rfl) ?_
        refine w_end ?_
        refine fr_eq (l' := (lk [(i64 n), (i64 self), (i64 tag), (.slice A l.length c), (S4.val m), undef, undef, undef, undef, (ptr b1 0), (.bool (decide ((((doubtsL (bg X (djs X m)) (idsS m))).length : Int) = 0))), (ptr p4 0), (i64 0), (ptr b19 0), (.slice A24 (((doubtsL X (idsS m))).length) c25), (i64 (k30 : Int)), (z_k30 16), (z_k30 17), (z_k30 18), (z_k30 19), (ptr b56 0), (i64 0), (.tuple #[(ptr p4 0), (i64 0)]), (i64 n), (i64 self), (i64 tag), (.tuple #[(ptr p4 0), (i64 0)]), (ptr p4 0), (i64 0), (i64 0), (.bool false), (.bool false), (.slice A l.length c), (i64 (l.length : Int)), (.bool (decide (300 < (l.length : Int)))), (.bool (decide (300 < (l.length : Int)))), undef, (ptr p4 0), (.slice A l.length c), (.tuple #[(S4.val (mergeS (newL (n).toNat self tag) l)), (i64 (mergeE (newL (n).toNat self tag) l))]), (ptr p4 0), (S4.val (suspS X)), (ptr p4 0), (S4.val m), (.slice A24 (((doubtsL X (idsS m))).length) c25), (i64 (k30 : Int)), (.slice A24 (((doubtsL X (idsS m))).length) c25), (i64 (((doubtsL X (idsS m))).length : Int)), (.bool (decide ((k30 : Int) < (((doubtsL X (idsS m))).length : Int)))), (z_k30 49), (z_k30 50), (z_k30 51), (z_k30 52), (z_k30 53), (z_k30 54), (z_k30 55), (z_k30 56), (z_k30 57), (z_k30 58), (z_k30 59), (z_k30 60), (z_k30 61), (z_k30 62), (z_k30 63), (z_k30 64), (z_k30 65), (z_k30 66), (z_k30 67), (z_k30 68), (z_k30 69), (z_k30 70), (z_k30 71), (z_k30 72), (z_k30 73), (z_k30 74), (z_k30 75), (z_k30 76), (z_k30 77), (z_k30 78), (z_k30 79), (z_k30 80), (z_k30 81), (z_k30 82), (z_k30 83), (z_k30 84), (z_k30 85), (z_k30 86), (z_k30 87), (z_k30 88), (z_k30 89), (z_k30 90), (z_k30 91), (z_k30 92), (z_k30 93), (z_k30 94), (z_k30 95), (z_k30 96), (z_k30 97), (z_k30 98), (z_k30 99), (z_k30 100), (z_k30 101), (z_k30 102), (.tuple #[(S4.val (upToS n)), (i64 0)]), (i64 n), (.tuple #[(S4.val (upToS n)), (i64 0)]), (S4.val (upToS n)), (i64 0), (.bool true), (.bool true), (ptr p4 0), (S4.val (suspS (bg X (djs X m)))), (S4.val (suspS X)), (S4.val m), (S4.val (upToS n)), (S4.val (meetS m (upToS n))), (S4.val (unionS (suspS X) (meetS m (upToS n)))), (.bool (decide ((suspS (bg X (djs X m))) = (unionS (suspS X) (meetS m (upToS n)))))), (.bool (decide ((suspS (bg X (djs X m))) = (unionS (suspS X) (meetS m (upToS n)))))), (.bool (decide ((suspS (bg X (djs X m))) = (unionS (suspS X) (meetS m (upToS n)))))), (ptr p4 0), (S4.val m), (.slice A65 (((doubtsL (bg X (djs X m)) (idsS m))).length) c66), (i64 (((doubtsL (bg X (djs X m)) (idsS m))).length : Int)), (.bool (decide ((((doubtsL (bg X (djs X m)) (idsS m))).length : Int) = 0))), (.bool (decide ((((doubtsL (bg X (djs X m)) (idsS m))).length : Int) = 0)))])) (by kernel_rfl) ?_
        refine c_ret ?_
        refine bp_ret (rs1 rfl (rv_tmp (v := (.bool (decide ((((doubtsL (bg X (djs X m)) (idsS m))).length : Int) = 0)))) rfl)) ?_
        exact ⟨by rw [hgl2]; rfl, hE⟩
  ·
    refine s_callP e53 (v := (.tuple #[(.pointer none), (i64 (newE n self tag))])) (vs := [(i64 n), (i64 self), (i64 tag)]) rfl (NewBad_c n self tag hok) (fun w71 x72 => ?_)
    replace hE := hE.step0 x72
    replace hb1 := hb1.ext0 x72
    replace hl := hl.ext0 x72
    clear x72
    refine s1 (v := (.tuple #[(.pointer none), (i64 (newE n self tag))])) (rn_mv rfl) ?_
    refine s1 (v := (.pointer none)) (rn_ex (vs := [(.pointer none), (i64 (newE n self tag))]) rfl rfl) ?_
    refine s1 (v := (i64 (newE n self tag))) (rn_ex (vs := [(.pointer none), (i64 (newE n self tag))]) rfl rfl) ?_
    refine s1 (v := (.pointer none)) (rn_as rfl) ?_
    refine s1 (v := (i64 (newE n self tag))) (rn_as rfl) ?_
    refine w_end ?_
    refine c_seq ?_
    refine c_rs ?_
    refine s1 (v := (i64 (newE n self tag))) (rn_mv rfl) ?_
    refine s1 (v := (.bool (decide (newE n self tag ≠ 0)))) (rn_neq (m := newE n self tag) (n := 0) rfl rfl) ?_
    refine s1 (v := (.bool (decide (newE n self tag ≠ 0)))) (rn_mv rfl) ?_
    refine g_not rfl rfl rfl (decide_eq_true (newE_ne _ _ _)) ?_
    refine g_not rfl rfl rfl (decide_eq_true (newE_ne _ _ _)) ?_
    refine g_not rfl rfl rfl (decide_eq_true (newE_ne _ _ _)) ?_
    refine s1 (v := (.bool true)) (rn_pT (b := (decide (newE n self tag ≠ 0))) rfl (decide_eq_true (newE_ne _ _ _)) rfl) ?_
    refine w_end ?_
    refine c_T (b := true) rfl rfl ?_
    refine c_rs ?_
    refine s_callP e25 (v := (.bool true)) (vs := []) rfl (alive14_c) (fun w73 x74 => ?_)
    replace hE := hE.step0 x74
    replace hb1 := hb1.ext0 x74
    replace hl := hl.ext0 x74
    clear x74
    refine s1 (v := (.bool true)) (rn_as rfl) ?_
    refine w_end ?_
    refine c_ret ?_
    refine t_ret ?_
    refine bp_ret (rs1 rfl (rv_tmp (v := (.bool true)) rfl)) ?_
    exact ⟨rfl, hE⟩

end Go.Proofs.Ytfdffeameoejfaa
