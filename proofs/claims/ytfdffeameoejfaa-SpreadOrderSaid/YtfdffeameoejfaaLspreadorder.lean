/- lspreadorder: printed walks. -/
import Derived.Test.YtfdffeameoejfaaLaw16
namespace Go.Proofs.Ytfdffeameoejfaa
open Go Go.RowKit
set_option linter.unusedVariables false
set_option linter.unusedSimpArgs false

theorem SpreadOrder_w {A B : Option Addr} {gl gm c c' : Nat} {l m : List N3} {w0 : World} (n self : Int) (hl : Ls N3.cells 3 w0 gl A l) (hml : l.length ≤ 9223372036854775807) (hm : Ls N3.cells 3 w0 gm B m) (hmm : m.length ≤ 9223372036854775807) :
    Calls Try.prog 5 [(i64 n), (i64 self), (.slice A l.length c), (.slice B m.length c')].toArray w0 (Ret (fun v w' => v = .bool true ∧ Ext [] w0 w')) := by
  have hE : Ext [] w0 w0 := (Ext.refl w0).more (by simp)
  have hgl := hl.lt (by simp)
  have hgm := hm.lt (by simp)
  refine enter (vs := [(i64 n), (i64 self), (.slice A l.length c), (.slice B m.length c')]) Try.func5 rfl Try.ntmps5 rfl ?_
  refine c_rs ?_
  refine s1 (v := (.bool false)) (rn_as rfl) ?_
  refine w_end ?_
  refine c_seq ?_
  refine c_rs ?_
  refine s1 (v := (i64 n)) (rn_mv rfl) ?_
  refine s1 (v := (.bool (decide (n < 1)))) (rn_lss (m := n) (n := 1) rfl rfl) ?_
  refine s1 (v := (.bool (decide (n < 1)))) (rn_mv rfl) ?_
  rcases Bool.eq_false_or_eq_true (decide (n < 1)) with h1 | h1
  ·
    have p2 := of_decide_eq_true h1
    refine g_not rfl rfl rfl h1 ?_
    refine g_not rfl rfl rfl h1 ?_
    refine s1 (v := (.bool true)) (rn_pT (b := (decide (n < 1))) rfl h1 rfl) ?_
    refine s1 (v := (.bool true)) (rn_mv rfl) ?_
    refine g_not rfl rfl rfl rfl ?_
    refine g_not rfl rfl rfl rfl ?_
    refine s1 (v := (.bool true)) (rn_pT (b := true) rfl rfl rfl) ?_
    refine s1 (v := (.bool true)) (rn_mv rfl) ?_
    refine g_not rfl rfl rfl rfl ?_
    refine g_not rfl rfl rfl rfl ?_
    refine g_not rfl rfl rfl rfl ?_
    refine s1 (v := (.bool true)) (rn_pT (b := true) rfl rfl rfl) ?_
    refine s1 (v := (.bool true)) (rn_mv rfl) ?_
    refine g_not rfl rfl rfl rfl ?_
    refine g_not rfl rfl rfl rfl ?_
    refine g_not rfl rfl rfl rfl ?_
    refine s1 (v := (.bool true)) (rn_pT (b := true) rfl rfl rfl) ?_
    refine s1 (v := (.bool true)) (rn_mv rfl) ?_
    refine g_not rfl rfl rfl rfl ?_
    refine g_not rfl rfl rfl rfl ?_
    refine g_not rfl rfl rfl rfl ?_
    refine s1 (v := (.bool true)) (rn_pT (b := true) rfl rfl rfl) ?_
    refine w_end ?_
    refine c_T (b := true) rfl rfl ?_
    refine c_rs ?_
    refine s_callP e20 (v := (.bool true)) (vs := []) rfl (alive_c) (fun w3 x4 => ?_)
    replace hE := hE.step0 x4
    replace hl := hl.ext0 x4
    replace hm := hm.ext0 x4
    clear x4
    refine s1 (v := (.bool true)) (rn_as rfl) ?_
    refine w_end ?_
    refine c_ret ?_
    refine t_ret ?_
    refine bp_ret (rs1 rfl (rv_tmp (v := (.bool true)) rfl)) ?_
    exact ⟨rfl, hE⟩
  ·
    have p5 := of_decide_eq_false h1
    refine g_yes rfl rfl rfl h1 ?_
    refine s1 (v := (i64 n)) (rn_mv rfl) ?_
    refine g_yes rfl rfl rfl h1 ?_
    refine s1 (v := (.bool (decide (100 < n)))) (rn_gtr (m := n) (n := 100) rfl rfl) ?_
    refine s1 (v := (.bool (decide (100 < n)))) (rn_pF (b := (decide (n < 1))) rfl h1 rfl) ?_
    refine s1 (v := (.bool (decide (100 < n)))) (rn_mv rfl) ?_
    rcases Bool.eq_false_or_eq_true (decide (100 < n)) with h6 | h6
    ·
      have p7 := of_decide_eq_true h6
      refine g_not rfl rfl rfl h6 ?_
      refine g_not rfl rfl rfl h6 ?_
      refine s1 (v := (.bool true)) (rn_pT (b := (decide (100 < n))) rfl h6 rfl) ?_
      refine s1 (v := (.bool true)) (rn_mv rfl) ?_
      refine g_not rfl rfl rfl rfl ?_
      refine g_not rfl rfl rfl rfl ?_
      refine g_not rfl rfl rfl rfl ?_
      refine s1 (v := (.bool true)) (rn_pT (b := true) rfl rfl rfl) ?_
      refine s1 (v := (.bool true)) (rn_mv rfl) ?_
      refine g_not rfl rfl rfl rfl ?_
      refine g_not rfl rfl rfl rfl ?_
      refine g_not rfl rfl rfl rfl ?_
      refine s1 (v := (.bool true)) (rn_pT (b := true) rfl rfl rfl) ?_
      refine s1 (v := (.bool true)) (rn_mv rfl) ?_
      refine g_not rfl rfl rfl rfl ?_
      refine g_not rfl rfl rfl rfl ?_
      refine g_not rfl rfl rfl rfl ?_
      refine s1 (v := (.bool true)) (rn_pT (b := true) rfl rfl rfl) ?_
      refine w_end ?_
      refine c_T (b := true) rfl rfl ?_
      refine c_rs ?_
      refine s_callP e20 (v := (.bool true)) (vs := []) rfl (alive_c) (fun w8 x9 => ?_)
      replace hE := hE.step0 x9
      replace hl := hl.ext0 x9
      replace hm := hm.ext0 x9
      clear x9
      refine s1 (v := (.bool true)) (rn_as rfl) ?_
      refine w_end ?_
      refine c_ret ?_
      refine t_ret ?_
      refine bp_ret (rs1 rfl (rv_tmp (v := (.bool true)) rfl)) ?_
      exact ⟨rfl, hE⟩
    ·
      have p10 := of_decide_eq_false h6
      refine g_yes rfl rfl rfl h6 ?_
      refine s1 (v := (i64 self)) (rn_mv rfl) ?_
      refine g_yes rfl rfl rfl h6 ?_
      refine s1 (v := (.bool (decide (self < 0)))) (rn_lss (m := self) (n := 0) rfl rfl) ?_
      refine s1 (v := (.bool (decide (self < 0)))) (rn_pF (b := (decide (100 < n))) rfl h6 rfl) ?_
      refine s1 (v := (.bool (decide (self < 0)))) (rn_mv rfl) ?_
      rcases Bool.eq_false_or_eq_true (decide (self < 0)) with h11 | h11
      ·
        have p12 := of_decide_eq_true h11
        refine g_not rfl rfl rfl h11 ?_
        refine g_not rfl rfl rfl h11 ?_
        refine g_not rfl rfl rfl h11 ?_
        refine s1 (v := (.bool true)) (rn_pT (b := (decide (self < 0))) rfl h11 rfl) ?_
        refine s1 (v := (.bool true)) (rn_mv rfl) ?_
        refine g_not rfl rfl rfl rfl ?_
        refine g_not rfl rfl rfl rfl ?_
        refine g_not rfl rfl rfl rfl ?_
        refine s1 (v := (.bool true)) (rn_pT (b := true) rfl rfl rfl) ?_
        refine s1 (v := (.bool true)) (rn_mv rfl) ?_
        refine g_not rfl rfl rfl rfl ?_
        refine g_not rfl rfl rfl rfl ?_
        refine g_not rfl rfl rfl rfl ?_
        refine s1 (v := (.bool true)) (rn_pT (b := true) rfl rfl rfl) ?_
        refine w_end ?_
        refine c_T (b := true) rfl rfl ?_
        refine c_rs ?_
        refine s_callP e20 (v := (.bool true)) (vs := []) rfl (alive_c) (fun w13 x14 => ?_)
        replace hE := hE.step0 x14
        replace hl := hl.ext0 x14
        replace hm := hm.ext0 x14
        clear x14
        refine s1 (v := (.bool true)) (rn_as rfl) ?_
        refine w_end ?_
        refine c_ret ?_
        refine t_ret ?_
        refine bp_ret (rs1 rfl (rv_tmp (v := (.bool true)) rfl)) ?_
        exact ⟨rfl, hE⟩
      ·
        have p15 := of_decide_eq_false h11
        refine g_yes rfl rfl rfl h11 ?_
        refine s1 (v := (i64 self)) (rn_mv rfl) ?_
        refine g_yes rfl rfl rfl h11 ?_
        refine s1 (v := (i64 n)) (rn_mv rfl) ?_
        refine g_yes rfl rfl rfl h11 ?_
        refine s1 (v := (.bool (decide (n ≤ self)))) (rn_geq (m := self) (n := n) rfl rfl) ?_
        refine s1 (v := (.bool (decide (n ≤ self)))) (rn_pF (b := (decide (self < 0))) rfl h11 rfl) ?_
        refine s1 (v := (.bool (decide (n ≤ self)))) (rn_mv rfl) ?_
        rcases Bool.eq_false_or_eq_true (decide (n ≤ self)) with h16 | h16
        ·
          have p17 := of_decide_eq_true h16
          refine g_not rfl rfl rfl h16 ?_
          refine g_not rfl rfl rfl h16 ?_
          refine g_not rfl rfl rfl h16 ?_
          refine s1 (v := (.bool true)) (rn_pT (b := (decide (n ≤ self))) rfl h16 rfl) ?_
          refine s1 (v := (.bool true)) (rn_mv rfl) ?_
          refine g_not rfl rfl rfl rfl ?_
          refine g_not rfl rfl rfl rfl ?_
          refine g_not rfl rfl rfl rfl ?_
          refine s1 (v := (.bool true)) (rn_pT (b := true) rfl rfl rfl) ?_
          refine w_end ?_
          refine c_T (b := true) rfl rfl ?_
          refine c_rs ?_
          refine s_callP e20 (v := (.bool true)) (vs := []) rfl (alive_c) (fun w18 x19 => ?_)
          replace hE := hE.step0 x19
          replace hl := hl.ext0 x19
          replace hm := hm.ext0 x19
          clear x19
          refine s1 (v := (.bool true)) (rn_as rfl) ?_
          refine w_end ?_
          refine c_ret ?_
          refine t_ret ?_
          refine bp_ret (rs1 rfl (rv_tmp (v := (.bool true)) rfl)) ?_
          exact ⟨rfl, hE⟩
        ·
          have p20 := of_decide_eq_false h16
          refine g_yes rfl rfl rfl h16 ?_
          refine s1 (v := (.slice A l.length c)) (rn_mv rfl) ?_
          refine g_yes rfl rfl rfl h16 ?_
          refine s_callP e19 (v := (.bool (decide ((l.length : Int) ≤ 300)))) (vs := [(.slice A l.length c)]) rfl (light_c A l.length c) (fun w21 x22 => ?_)
          replace hE := hE.step0 x22
          replace hl := hl.ext0 x22
          replace hm := hm.ext0 x22
          clear x22
          refine g_yes rfl rfl rfl h16 ?_
          refine s1 (v := (.bool (!(decide ((l.length : Int) ≤ 300))))) (rn_not (b := (decide ((l.length : Int) ≤ 300))) rfl) ?_
          refine s1 (v := (.bool (!(decide ((l.length : Int) ≤ 300))))) (rn_pF (b := (decide (n ≤ self))) rfl h16 rfl) ?_
          refine s1 (v := (.bool (!(decide ((l.length : Int) ≤ 300))))) (rn_mv rfl) ?_
          rcases Bool.eq_false_or_eq_true (!(decide ((l.length : Int) ≤ 300))) with h23 | h23
          ·
            have h24 := not_t h23
            have p25 := of_decide_eq_false h24
            refine g_not rfl rfl rfl h23 ?_
            refine g_not rfl rfl rfl h23 ?_
            refine g_not rfl rfl rfl h23 ?_
            refine s1 (v := (.bool true)) (rn_pT (b := (!(decide ((l.length : Int) ≤ 300)))) rfl h23 rfl) ?_
            refine w_end ?_
            refine c_T (b := true) rfl rfl ?_
            refine c_rs ?_
            refine s_callP e20 (v := (.bool true)) (vs := []) rfl (alive_c) (fun w26 x27 => ?_)
            replace hE := hE.step0 x27
            replace hl := hl.ext0 x27
            replace hm := hm.ext0 x27
            clear x27
            refine s1 (v := (.bool true)) (rn_as rfl) ?_
            refine w_end ?_
            refine c_ret ?_
            refine t_ret ?_
            refine bp_ret (rs1 rfl (rv_tmp (v := (.bool true)) rfl)) ?_
            exact ⟨rfl, hE⟩
          ·
            have h28 := not_f h23
            have p29 := of_decide_eq_true h28
            refine g_yes rfl rfl rfl h23 ?_
            refine s1 (v := (.slice B m.length c')) (rn_mv rfl) ?_
            refine g_yes rfl rfl rfl h23 ?_
            refine s_callP e19 (v := (.bool (decide ((m.length : Int) ≤ 300)))) (vs := [(.slice B m.length c')]) rfl (light_c B m.length c') (fun w30 x31 => ?_)
            replace hE := hE.step0 x31
            replace hl := hl.ext0 x31
            replace hm := hm.ext0 x31
            clear x31
            refine g_yes rfl rfl rfl h23 ?_
            refine s1 (v := (.bool (!(decide ((m.length : Int) ≤ 300))))) (rn_not (b := (decide ((m.length : Int) ≤ 300))) rfl) ?_
            refine s1 (v := (.bool (!(decide ((m.length : Int) ≤ 300))))) (rn_pF (b := (!(decide ((l.length : Int) ≤ 300)))) rfl h23 rfl) ?_
            refine w_end ?_
            refine c_if (b := (!(decide ((m.length : Int) ≤ 300)))) rfl (fun h32 => ?_) (fun h32 => ?_)
            ·
              have h33 := not_t h32
              have p34 := of_decide_eq_false h33
              refine c_rs ?_
              refine s_callP e20 (v := (.bool true)) (vs := []) rfl (alive_c) (fun w35 x36 => ?_)
              replace hE := hE.step0 x36
              replace hl := hl.ext0 x36
              replace hm := hm.ext0 x36
              clear x36
              refine s1 (v := (.bool true)) (rn_as rfl) ?_
              refine w_end ?_
              refine c_ret ?_
              refine t_ret ?_
              refine bp_ret (rs1 rfl (rv_tmp (v := (.bool true)) rfl)) ?_
              exact ⟨rfl, hE⟩
            ·
              have h37 := not_f h32
              have p38 := of_decide_eq_true h37
              refine c_skip' ?_
              refine t_norm ?_
              refine c_rs ?_
              refine s1 (v := (i64 n)) (rn_mv rfl) ?_
              refine s1 (v := (i64 self)) (rn_mv rfl) ?_
              refine s_call e21 (vs := [(i64 n), (i64 self), (.slice none 0 0)]) rfl (made_c (l := ([] : List N3)) (A := none) (gl := 0) (c := 0) n self Ls.nil (by omega) (by omega) (by omega) (by omega) (by first | omega | simp) (by first | omega | simp)) ?_
              rintro _ w41 ⟨p39, bb40, rfl, hB42, gp39, gbb40, x43⟩
              have np39_hE : w0.heap.size ≤ p39 := Nat.le_trans hE.size gp39
              clear gp39
              have nbb40_hE : w0.heap.size ≤ bb40 := Nat.le_trans hE.size gbb40
              clear gbb40
              replace hE := hE.step0 x43
              replace hl := hl.ext0 x43
              replace hm := hm.ext0 x43
              clear x43
              rw [mergeR_nil] at hB42
              refine s1 (v := (i64 n)) (rn_mv rfl) ?_
              refine s1 (v := (i64 self)) (rn_mv rfl) ?_
              refine s_call e21 (vs := [(i64 n), (i64 self), (.slice none 0 0)]) rfl (made_c (l := ([] : List N3)) (A := none) (gl := 0) (c := 0) n self Ls.nil (by omega) (by omega) (by omega) (by omega) (by first | omega | simp) (by first | omega | simp)) ?_
              rintro _ w46 ⟨p44, bb45, rfl, hB47, gp44, gbb45, x48⟩
              have np44_hE : w0.heap.size ≤ p44 := Nat.le_trans hE.size gp44
              have op44_hB42 : p39 < p44 ∧ bb40 < p44 := ⟨Nat.lt_of_lt_of_le hB42.ltp gp44, Nat.lt_of_lt_of_le hB42.ltb gp44⟩
              clear gp44
              have nbb45_hE : w0.heap.size ≤ bb45 := Nat.le_trans hE.size gbb45
              have obb45_hB42 : p39 < bb45 ∧ bb40 < bb45 := ⟨Nat.lt_of_lt_of_le hB42.ltp gbb45, Nat.lt_of_lt_of_le hB42.ltb gbb45⟩
              clear gbb45
              replace hE := hE.step0 x48
              replace hl := hl.ext0 x48
              replace hm := hm.ext0 x48
              replace hB42 := hB42.ext0 x48
              clear x48
              rw [mergeR_nil] at hB47
              refine s1 (v := (i64 n)) (rn_mv rfl) ?_
              refine s1 (v := (i64 self)) (rn_mv rfl) ?_
              refine s_call e21 (vs := [(i64 n), (i64 self), (.slice none 0 0)]) rfl (made_c (l := ([] : List N3)) (A := none) (gl := 0) (c := 0) n self Ls.nil (by omega) (by omega) (by omega) (by omega) (by first | omega | simp) (by first | omega | simp)) ?_
              rintro _ w51 ⟨p49, bb50, rfl, hB52, gp49, gbb50, x53⟩
              have np49_hE : w0.heap.size ≤ p49 := Nat.le_trans hE.size gp49
              have op49_hB42 : p39 < p49 ∧ bb40 < p49 := ⟨Nat.lt_of_lt_of_le hB42.ltp gp49, Nat.lt_of_lt_of_le hB42.ltb gp49⟩
              have op49_hB47 : p44 < p49 ∧ bb45 < p49 := ⟨Nat.lt_of_lt_of_le hB47.ltp gp49, Nat.lt_of_lt_of_le hB47.ltb gp49⟩
              clear gp49
              have nbb50_hE : w0.heap.size ≤ bb50 := Nat.le_trans hE.size gbb50
              have obb50_hB42 : p39 < bb50 ∧ bb40 < bb50 := ⟨Nat.lt_of_lt_of_le hB42.ltp gbb50, Nat.lt_of_lt_of_le hB42.ltb gbb50⟩
              have obb50_hB47 : p44 < bb50 ∧ bb45 < bb50 := ⟨Nat.lt_of_lt_of_le hB47.ltp gbb50, Nat.lt_of_lt_of_le hB47.ltb gbb50⟩
              clear gbb50
              replace hE := hE.step0 x53
              replace hl := hl.ext0 x53
              replace hm := hm.ext0 x53
              replace hB42 := hB42.ext0 x53
              replace hB47 := hB47.ext0 x53
              clear x53
              rw [mergeR_nil] at hB52
              refine s1 (v := (ptr p39 0)) (rn_as rfl) ?_
              refine s1 (v := (ptr p44 0)) (rn_as rfl) ?_
              refine s1 (v := (ptr p49 0)) (rn_as rfl) ?_
              refine w_end ?_
              refine c_rs ?_
              refine s1 (v := (ptr p39 0)) (rn_mv rfl) ?_
              refine s1 (v := (i64 self)) (rn_mv rfl) ?_
              refine s1 (v := (.slice A l.length c)) (rn_mv rfl) ?_
              refine s_call e23 (vs := [(ptr p39 0), (i64 self), (.slice A l.length c)]) rfl (Absorb_c (l := l) (gl := gl) (c := c) hB42 self hl (by first | omega | (simp only [absR_len, mergeR_len, newL_len]; omega)) (by first | omega | simp) (by first | omega | simp)) ?_
              rintro _ w54 ⟨rfl, hB55, x56⟩
              replace hE := hE.step1 x56 (by first | (left; simp; done) | (right; omega))
              replace hl := hl.ext1 x56 (by omega)
              replace hm := hm.ext1 x56 (by omega)
              replace hB47 := hB47.ext1 x56 (by omega)
              replace hB52 := hB52.ext1 x56 (by omega)
              clear x56
              replace hB42 := hB55; clear hB55
              refine w_end ?_
              refine c_rs ?_
              refine s1 (v := (ptr p39 0)) (rn_mv rfl) ?_
              refine s1 (v := (i64 self)) (rn_mv rfl) ?_
              refine s1 (v := (.slice B m.length c')) (rn_mv rfl) ?_
              refine s_call e23 (vs := [(ptr p39 0), (i64 self), (.slice B m.length c')]) rfl (Absorb_c (l := m) (gl := gm) (c := c') hB42 self hm (by first | omega | (simp only [absR_len, mergeR_len, newL_len]; omega)) (by first | omega | simp) (by first | omega | simp)) ?_
              rintro _ w57 ⟨rfl, hB58, x59⟩
              replace hE := hE.step1 x59 (by first | (left; simp; done) | (right; omega))
              replace hl := hl.ext1 x59 (by omega)
              replace hm := hm.ext1 x59 (by omega)
              replace hB47 := hB47.ext1 x59 (by omega)
              replace hB52 := hB52.ext1 x59 (by omega)
              clear x59
              replace hB42 := hB58; clear hB58
              refine w_end ?_
              refine c_rs ?_
              refine s1 (v := (ptr p44 0)) (rn_mv rfl) ?_
              refine s1 (v := (i64 self)) (rn_mv rfl) ?_
              refine s1 (v := (.slice B m.length c')) (rn_mv rfl) ?_
              refine s_call e23 (vs := [(ptr p44 0), (i64 self), (.slice B m.length c')]) rfl (Absorb_c (l := m) (gl := gm) (c := c') hB47 self hm (by first | omega | (simp only [absR_len, mergeR_len, newL_len]; omega)) (by first | omega | simp) (by first | omega | simp)) ?_
              rintro _ w60 ⟨rfl, hB61, x62⟩
              replace hE := hE.step1 x62 (by first | (left; simp; done) | (right; omega))
              replace hl := hl.ext1 x62 (by omega)
              replace hm := hm.ext1 x62 (by omega)
              replace hB42 := hB42.ext1 x62 (by omega)
              replace hB52 := hB52.ext1 x62 (by omega)
              clear x62
              replace hB47 := hB61; clear hB61
              refine w_end ?_
              refine c_rs ?_
              refine s1 (v := (ptr p44 0)) (rn_mv rfl) ?_
              refine s1 (v := (i64 self)) (rn_mv rfl) ?_
              refine s1 (v := (.slice A l.length c)) (rn_mv rfl) ?_
              refine s_call e23 (vs := [(ptr p44 0), (i64 self), (.slice A l.length c)]) rfl (Absorb_c (l := l) (gl := gl) (c := c) hB47 self hl (by first | omega | (simp only [absR_len, mergeR_len, newL_len]; omega)) (by first | omega | simp) (by first | omega | simp)) ?_
              rintro _ w63 ⟨rfl, hB64, x65⟩
              replace hE := hE.step1 x65 (by first | (left; simp; done) | (right; omega))
              replace hl := hl.ext1 x65 (by omega)
              replace hm := hm.ext1 x65 (by omega)
              replace hB42 := hB42.ext1 x65 (by omega)
              replace hB52 := hB52.ext1 x65 (by omega)
              clear x65
              replace hB47 := hB64; clear hB64
              refine w_end ?_
              refine c_seq ?_
              refine c_rs ?_
              refine s1 (v := (i64 0)) (rn_as rfl) ?_
              refine w_end ?_
              refine c_block ?_
              refine c_rounds 3 ?_
              refine r_round ?_
              refine c_seq ?_
              refine c_rs ?_
              refine s1 (v := (i64 0)) (rn_mv rfl) ?_
              refine s1 (v := (.bool true)) (rn_lss (m := 0) (n := 2) rfl rfl) ?_
              refine w_end ?_
              refine c_T (b := true) rfl rfl ?_
              refine c_skip' ?_
              refine t_norm ?_
              refine c_seq ?_
              refine c_block ?_
              refine c_rs ?_
              refine s1 (v := (ptr p49 0)) (rn_mv rfl) ?_
              refine s1 (v := (i64 self)) (rn_mv rfl) ?_
              refine s1 (v := (.slice A l.length c)) (rn_mv rfl) ?_
              refine s_call e23 (vs := [(ptr p49 0), (i64 self), (.slice A l.length c)]) rfl (Absorb_c (l := l) (gl := gl) (c := c) hB52 self hl (by first | omega | (simp only [absR_len, mergeR_len, newL_len]; omega)) (by first | omega | simp) (by first | omega | simp)) ?_
              rintro _ w66 ⟨rfl, hB67, x68⟩
              replace hE := hE.step1 x68 (by first | (left; simp; done) | (right; omega))
              replace hl := hl.ext1 x68 (by omega)
              replace hm := hm.ext1 x68 (by omega)
              replace hB42 := hB42.ext1 x68 (by omega)
              replace hB47 := hB47.ext1 x68 (by omega)
              clear x68
              replace hB52 := hB67; clear hB67
              refine w_end ?_
              refine c_r ?_
              refine s1 (v := (ptr p49 0)) (rn_mv rfl) ?_
              refine s1 (v := (i64 self)) (rn_mv rfl) ?_
              refine s1 (v := (.slice B m.length c')) (rn_mv rfl) ?_
              refine s_call e23 (vs := [(ptr p49 0), (i64 self), (.slice B m.length c')]) rfl (Absorb_c (l := m) (gl := gm) (c := c') hB52 self hm (by first | omega | (simp only [absR_len, mergeR_len, newL_len]; omega)) (by first | omega | simp) (by first | omega | simp)) ?_
              rintro _ w69 ⟨rfl, hB70, x71⟩
              replace hE := hE.step1 x71 (by first | (left; simp; done) | (right; omega))
              replace hl := hl.ext1 x71 (by omega)
              replace hm := hm.ext1 x71 (by omega)
              replace hB42 := hB42.ext1 x71 (by omega)
              replace hB47 := hB47.ext1 x71 (by omega)
              clear x71
              replace hB52 := hB70; clear hB70
              refine w_nil ?_
              refine b_norm ?_
              refine t_norm ?_
              refine c_r ?_
              refine s1 (v := (i64 0)) (rn_mv rfl) ?_
              refine s1 (v := (i64 1)) (rn_add (m := 0) (n := 1) rfl rfl (by decide)) ?_
              refine s1 (v := (i64 1)) (rn_as rfl) ?_
              refine w_nil ?_
              refine t_norm ?_
              refine r_round ?_
              refine c_seq ?_
              refine c_rs ?_
              refine s1 (v := (i64 1)) (rn_mv rfl) ?_
              refine s1 (v := (.bool true)) (rn_lss (m := 1) (n := 2) rfl rfl) ?_
              refine w_end ?_
              refine c_T (b := true) rfl rfl ?_
              refine c_skip' ?_
              refine t_norm ?_
              refine c_seq ?_
              refine c_block ?_
              refine c_rs ?_
              refine s1 (v := (ptr p49 0)) (rn_mv rfl) ?_
              refine s1 (v := (i64 self)) (rn_mv rfl) ?_
              refine s1 (v := (.slice A l.length c)) (rn_mv rfl) ?_
              refine s_call e23 (vs := [(ptr p49 0), (i64 self), (.slice A l.length c)]) rfl (Absorb_c (l := l) (gl := gl) (c := c) hB52 self hl (by first | omega | (simp only [absR_len, mergeR_len, newL_len]; omega)) (by first | omega | simp) (by first | omega | simp)) ?_
              rintro _ w72 ⟨rfl, hB73, x74⟩
              replace hE := hE.step1 x74 (by first | (left; simp; done) | (right; omega))
              replace hl := hl.ext1 x74 (by omega)
              replace hm := hm.ext1 x74 (by omega)
              replace hB42 := hB42.ext1 x74 (by omega)
              replace hB47 := hB47.ext1 x74 (by omega)
              clear x74
              replace hB52 := hB73; clear hB73
              refine w_end ?_
              refine c_r ?_
              refine s1 (v := (ptr p49 0)) (rn_mv rfl) ?_
              refine s1 (v := (i64 self)) (rn_mv rfl) ?_
              refine s1 (v := (.slice B m.length c')) (rn_mv rfl) ?_
              refine s_call e23 (vs := [(ptr p49 0), (i64 self), (.slice B m.length c')]) rfl (Absorb_c (l := m) (gl := gm) (c := c') hB52 self hm (by first | omega | (simp only [absR_len, mergeR_len, newL_len]; omega)) (by first | omega | simp) (by first | omega | simp)) ?_
              rintro _ w75 ⟨rfl, hB76, x77⟩
              replace hE := hE.step1 x77 (by first | (left; simp; done) | (right; omega))
              replace hl := hl.ext1 x77 (by omega)
              replace hm := hm.ext1 x77 (by omega)
              replace hB42 := hB42.ext1 x77 (by omega)
              replace hB47 := hB47.ext1 x77 (by omega)
              clear x77
              replace hB52 := hB76; clear hB76
              refine w_nil ?_
              refine b_norm ?_
              refine t_norm ?_
              refine c_r ?_
              refine s1 (v := (i64 1)) (rn_mv rfl) ?_
              refine s1 (v := (i64 2)) (rn_add (m := 1) (n := 1) rfl rfl (by decide)) ?_
              refine s1 (v := (i64 2)) (rn_as rfl) ?_
              refine w_nil ?_
              refine t_norm ?_
              refine r_round ?_
              refine c_seq ?_
              refine c_rs ?_
              refine s1 (v := (i64 2)) (rn_mv rfl) ?_
              refine s1 (v := (.bool false)) (rn_lss (m := 2) (n := 2) rfl rfl) ?_
              refine w_end ?_
              refine c_F (b := false) rfl rfl ?_
              refine c_exit ?_
              refine t_exit ?_
              refine t_exit ?_
              refine b_here ?_
              refine t_norm ?_
              refine c_rs ?_
              have hg : Good (newL (n).toNat self 0) := good_new (by omega) (by omega) (by omega) (by decide)
              have hO := order_law (self := self) (l := l) (m := m) hg
              refine s_callP e20 (v := (.bool true)) (vs := []) rfl (alive_c) (fun w78 x79 => ?_)
              replace hE := hE.step0 x79
              replace hl := hl.ext0 x79
              replace hm := hm.ext0 x79
              replace hB42 := hB42.ext0 x79
              replace hB47 := hB47.ext0 x79
              replace hB52 := hB52.ext0 x79
              clear x79
              refine s1 (v := (.bool true)) (rn_mv rfl) ?_
              refine g_yes rfl rfl rfl rfl ?_
              refine s1 (v := (ptr p39 0)) (rn_mv rfl) ?_
              refine g_yes rfl rfl rfl rfl ?_
              refine s1 (v := (ptr p44 0)) (rn_mv rfl) ?_
              refine g_yes rfl rfl rfl rfl ?_
              refine s_callP e35 (v := (.bool (decide ((absR self (absR self (newL (n).toNat self 0) l) m) = (absR self (absR self (newL (n).toNat self 0) m) l))))) (vs := [(ptr p39 0), (ptr p44 0)]) rfl (Same_c hB42 hB47 (by first | omega | (simp only [absR_len, mergeR_len, newL_len]; omega))) (fun w80 x81 => ?_)
              replace hE := hE.step0 x81
              replace hl := hl.ext0 x81
              replace hm := hm.ext0 x81
              replace hB42 := hB42.ext0 x81
              replace hB47 := hB47.ext0 x81
              replace hB52 := hB52.ext0 x81
              clear x81
              refine s1 (v := (.bool (decide ((absR self (absR self (newL (n).toNat self 0) l) m) = (absR self (absR self (newL (n).toNat self 0) m) l))))) (rn_pT (b := true) rfl rfl rfl) ?_
              refine s1 (v := (.bool (decide ((absR self (absR self (newL (n).toNat self 0) l) m) = (absR self (absR self (newL (n).toNat self 0) m) l))))) (rn_mv rfl) ?_
              refine g_yes rfl rfl rfl (decide_eq_true hO.1) ?_
              refine s1 (v := (ptr p39 0)) (rn_mv rfl) ?_
              refine g_yes rfl rfl rfl (decide_eq_true hO.1) ?_
              refine s1 (v := (ptr p49 0)) (rn_mv rfl) ?_
              refine g_yes rfl rfl rfl (decide_eq_true hO.1) ?_
              refine s_callP e35 (v := (.bool (decide ((absR self (absR self (newL (n).toNat self 0) l) m) = (absR self (absR self (absR self (absR self (newL (n).toNat self 0) l) m) l) m))))) (vs := [(ptr p39 0), (ptr p49 0)]) rfl (Same_c hB42 hB52 (by first | omega | (simp only [absR_len, mergeR_len, newL_len]; omega))) (fun w82 x83 => ?_)
              replace hE := hE.step0 x83
              replace hl := hl.ext0 x83
              replace hm := hm.ext0 x83
              replace hB42 := hB42.ext0 x83
              replace hB47 := hB47.ext0 x83
              replace hB52 := hB52.ext0 x83
              clear x83
              refine s1 (v := (.bool (decide ((absR self (absR self (newL (n).toNat self 0) l) m) = (absR self (absR self (absR self (absR self (newL (n).toNat self 0) l) m) l) m))))) (rn_pT (b := (decide ((absR self (absR self (newL (n).toNat self 0) l) m) = (absR self (absR self (newL (n).toNat self 0) m) l)))) rfl (decide_eq_true hO.1) rfl) ?_
              refine s1 (v := (.bool (decide ((absR self (absR self (newL (n).toNat self 0) l) m) = (absR self (absR self (absR self (absR self (newL (n).toNat self 0) l) m) l) m))))) (rn_as rfl) ?_
              refine w_end ?_
              refine c_ret ?_
              refine bp_ret (rs1 rfl (rv_tmp (v := (.bool (decide ((absR self (absR self (newL (n).toNat self 0) l) m) = (absR self (absR self (absR self (absR self (newL (n).toNat self 0) l) m) l) m))))) rfl)) ?_
              exact ⟨by rw [decide_eq_true hO.2], hE⟩

end Go.Proofs.Ytfdffeameoejfaa
