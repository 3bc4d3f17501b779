/- linferquorums: printed walks. -/
import Derived.Test.YtfdffeameoejfaaLaw14
import Derived.Test.YtfdffeameoejfaaPQuorum
namespace Go.Proofs.Ytfdffeameoejfaa
open Go Go.RowKit
set_option linter.unusedVariables false
set_option linter.unusedSimpArgs false

set_option maxHeartbeats 800000 in
theorem InferQuorums_w {A B : Option Addr} {gl go c c' : Nat} {l : List S4} {ord : List Int} {w0 : World} (n f self : Int) (hl : Ls S4.cells 4 w0 gl A l) (hml : l.length ≤ 9223372036854775807) (hlw : ∀ x ∈ l, S4.wfu x) (ho : Ls I1.cells 1 w0 go B ord) (hmo : ord.length ≤ 9223372036854775807) (how : ∀ x ∈ ord, wfI x) :
    Calls Try.prog 4 [(i64 n), (i64 f), (i64 self), (.slice A l.length c), (.slice B ord.length c')].toArray w0 (Ret (fun v w' => v = .bool true ∧ Ext [] w0 w')) := by
  have hE : Ext [] w0 w0 := (Ext.refl w0).more (by simp)
  have hgl := hl.lt (by simp)
  have hgo := ho.lt (by simp)
  refine enter (vs := [(i64 n), (i64 f), (i64 self), (.slice A l.length c), (.slice B ord.length c')]) Try.func4 rfl Try.ntmps4 rfl ?_
  refine c_rs ?_
  refine s1 (v := (.bool false)) (rn_as rfl) ?_
  refine w_end ?_
  refine c_seq ?_
  refine c_rs ?_
  refine s1 (v := (i64 n)) (rn_mv rfl) ?_
  refine s1 (v := (.bool (decide (n < 1)))) (rn_lss (m := n) (n := 1) rfl rfl) ?_
  refine s1 (v := (.bool (decide (n < 1)))) (rn_mv rfl) ?_
  rcases Bool.eq_false_or_eq_true (decide (n < 1)) with h1 | h1
  ·
    have p2 := of_decide_eq_true h1
    refine g_not rfl rfl rfl h1 ?_
    refine g_not rfl rfl rfl h1 ?_
    refine s1 (v := (.bool true)) (rn_pT (b := (decide (n < 1))) rfl h1 rfl) ?_
    refine s1 (v := (.bool true)) (rn_mv rfl) ?_
    refine g_not rfl rfl rfl rfl ?_
    refine g_not rfl rfl rfl rfl ?_
    refine s1 (v := (.bool true)) (rn_pT (b := true) rfl rfl rfl) ?_
    refine s1 (v := (.bool true)) (rn_mv rfl) ?_
    refine g_not rfl rfl rfl rfl ?_
    refine g_not rfl rfl rfl rfl ?_
    refine g_not rfl rfl rfl rfl ?_
    refine s1 (v := (.bool true)) (rn_pT (b := true) rfl rfl rfl) ?_
    refine s1 (v := (.bool true)) (rn_mv rfl) ?_
    refine g_not rfl rfl rfl rfl ?_
    refine g_not rfl rfl rfl rfl ?_
    refine s1 (v := (.bool true)) (rn_pT (b := true) rfl rfl rfl) ?_
    refine s1 (v := (.bool true)) (rn_mv rfl) ?_
    refine g_not rfl rfl rfl rfl ?_
    refine g_not rfl rfl rfl rfl ?_
    refine g_not rfl rfl rfl rfl ?_
    refine s1 (v := (.bool true)) (rn_pT (b := true) rfl rfl rfl) ?_
    refine s1 (v := (.bool true)) (rn_mv rfl) ?_
    refine g_not rfl rfl rfl rfl ?_
    refine g_not rfl rfl rfl rfl ?_
    refine g_not rfl rfl rfl rfl ?_
    refine g_not rfl rfl rfl rfl ?_
    refine s1 (v := (.bool true)) (rn_pT (b := true) rfl rfl rfl) ?_
    refine s1 (v := (.bool true)) (rn_mv rfl) ?_
    refine g_not rfl rfl rfl rfl ?_
    refine g_not rfl rfl rfl rfl ?_
    refine g_not rfl rfl rfl rfl ?_
    refine s1 (v := (.bool true)) (rn_pT (b := true) rfl rfl rfl) ?_
    refine w_end ?_
    refine c_T (b := true) rfl rfl ?_
    refine c_rs ?_
    refine s_callP e25 (v := (.bool true)) (vs := []) rfl (alive14_c) (fun w3 x4 => ?_)
    replace hE := hE.step0 x4
    replace hl := hl.ext0 x4
    replace ho := ho.ext0 x4
    clear x4
    refine s1 (v := (.bool true)) (rn_as rfl) ?_
    refine w_end ?_
    refine c_ret ?_
    refine t_ret ?_
    refine bp_ret (rs1 rfl (rv_tmp (v := (.bool true)) rfl)) ?_
    exact ⟨rfl, hE⟩
  ·
    have p5 := of_decide_eq_false h1
    refine g_yes rfl rfl rfl h1 ?_
    refine s1 (v := (i64 n)) (rn_mv rfl) ?_
    refine g_yes rfl rfl rfl h1 ?_
    refine s1 (v := (.bool (decide (20 < n)))) (rn_gtr (m := n) (n := 20) rfl rfl) ?_
    refine s1 (v := (.bool (decide (20 < n)))) (rn_pF (b := (decide (n < 1))) rfl h1 rfl) ?_
    refine s1 (v := (.bool (decide (20 < n)))) (rn_mv rfl) ?_
    rcases Bool.eq_false_or_eq_true (decide (20 < n)) with h6 | h6
    ·
      have p7 := of_decide_eq_true h6
      refine g_not rfl rfl rfl h6 ?_
      refine g_not rfl rfl rfl h6 ?_
      refine s1 (v := (.bool true)) (rn_pT (b := (decide (20 < n))) rfl h6 rfl) ?_
      refine s1 (v := (.bool true)) (rn_mv rfl) ?_
      refine g_not rfl rfl rfl rfl ?_
      refine g_not rfl rfl rfl rfl ?_
      refine g_not rfl rfl rfl rfl ?_
      refine s1 (v := (.bool true)) (rn_pT (b := true) rfl rfl rfl) ?_
      refine s1 (v := (.bool true)) (rn_mv rfl) ?_
      refine g_not rfl rfl rfl rfl ?_
      refine g_not rfl rfl rfl rfl ?_
      refine s1 (v := (.bool true)) (rn_pT (b := true) rfl rfl rfl) ?_
      refine s1 (v := (.bool true)) (rn_mv rfl) ?_
      refine g_not rfl rfl rfl rfl ?_
      refine g_not rfl rfl rfl rfl ?_
      refine g_not rfl rfl rfl rfl ?_
      refine s1 (v := (.bool true)) (rn_pT (b := true) rfl rfl rfl) ?_
      refine s1 (v := (.bool true)) (rn_mv rfl) ?_
      refine g_not rfl rfl rfl rfl ?_
      refine g_not rfl rfl rfl rfl ?_
      refine g_not rfl rfl rfl rfl ?_
      refine g_not rfl rfl rfl rfl ?_
      refine s1 (v := (.bool true)) (rn_pT (b := true) rfl rfl rfl) ?_
      refine s1 (v := (.bool true)) (rn_mv rfl) ?_
      refine g_not rfl rfl rfl rfl ?_
      refine g_not rfl rfl rfl rfl ?_
      refine g_not rfl rfl rfl rfl ?_
      refine s1 (v := (.bool true)) (rn_pT (b := true) rfl rfl rfl) ?_
      refine w_end ?_
      refine c_T (b := true) rfl rfl ?_
      refine c_rs ?_
      refine s_callP e25 (v := (.bool true)) (vs := []) rfl (alive14_c) (fun w8 x9 => ?_)
      replace hE := hE.step0 x9
      replace hl := hl.ext0 x9
      replace ho := ho.ext0 x9
      clear x9
      refine s1 (v := (.bool true)) (rn_as rfl) ?_
      refine w_end ?_
      refine c_ret ?_
      refine t_ret ?_
      refine bp_ret (rs1 rfl (rv_tmp (v := (.bool true)) rfl)) ?_
      exact ⟨rfl, hE⟩
    ·
      have p10 := of_decide_eq_false h6
      refine g_yes rfl rfl rfl h6 ?_
      refine s1 (v := (i64 f)) (rn_mv rfl) ?_
      refine g_yes rfl rfl rfl h6 ?_
      refine s1 (v := (.bool (decide (f < 0)))) (rn_lss (m := f) (n := 0) rfl rfl) ?_
      refine s1 (v := (.bool (decide (f < 0)))) (rn_pF (b := (decide (20 < n))) rfl h6 rfl) ?_
      refine s1 (v := (.bool (decide (f < 0)))) (rn_mv rfl) ?_
      rcases Bool.eq_false_or_eq_true (decide (f < 0)) with h11 | h11
      ·
        have p12 := of_decide_eq_true h11
        refine g_not rfl rfl rfl h11 ?_
        refine g_not rfl rfl rfl h11 ?_
        refine g_not rfl rfl rfl h11 ?_
        refine s1 (v := (.bool true)) (rn_pT (b := (decide (f < 0))) rfl h11 rfl) ?_
        refine s1 (v := (.bool true)) (rn_mv rfl) ?_
        refine g_not rfl rfl rfl rfl ?_
        refine g_not rfl rfl rfl rfl ?_
        refine s1 (v := (.bool true)) (rn_pT (b := true) rfl rfl rfl) ?_
        refine s1 (v := (.bool true)) (rn_mv rfl) ?_
        refine g_not rfl rfl rfl rfl ?_
        refine g_not rfl rfl rfl rfl ?_
        refine g_not rfl rfl rfl rfl ?_
        refine s1 (v := (.bool true)) (rn_pT (b := true) rfl rfl rfl) ?_
        refine s1 (v := (.bool true)) (rn_mv rfl) ?_
        refine g_not rfl rfl rfl rfl ?_
        refine g_not rfl rfl rfl rfl ?_
        refine g_not rfl rfl rfl rfl ?_
        refine g_not rfl rfl rfl rfl ?_
        refine s1 (v := (.bool true)) (rn_pT (b := true) rfl rfl rfl) ?_
        refine s1 (v := (.bool true)) (rn_mv rfl) ?_
        refine g_not rfl rfl rfl rfl ?_
        refine g_not rfl rfl rfl rfl ?_
        refine g_not rfl rfl rfl rfl ?_
        refine s1 (v := (.bool true)) (rn_pT (b := true) rfl rfl rfl) ?_
        refine w_end ?_
        refine c_T (b := true) rfl rfl ?_
        refine c_rs ?_
        refine s_callP e25 (v := (.bool true)) (vs := []) rfl (alive14_c) (fun w13 x14 => ?_)
        replace hE := hE.step0 x14
        replace hl := hl.ext0 x14
        replace ho := ho.ext0 x14
        clear x14
        refine s1 (v := (.bool true)) (rn_as rfl) ?_
        refine w_end ?_
        refine c_ret ?_
        refine t_ret ?_
        refine bp_ret (rs1 rfl (rv_tmp (v := (.bool true)) rfl)) ?_
        exact ⟨rfl, hE⟩
      ·
        have p15 := of_decide_eq_false h11
        refine g_yes rfl rfl rfl h11 ?_
        refine s1 (v := (i64 f)) (rn_mv rfl) ?_
        refine g_yes rfl rfl rfl h11 ?_
        refine s1 (v := (i64 n)) (rn_mv rfl) ?_
        refine g_yes rfl rfl rfl h11 ?_
        refine s1 (v := (.bool (decide (n ≤ f)))) (rn_geq (m := f) (n := n) rfl rfl) ?_
        refine s1 (v := (.bool (decide (n ≤ f)))) (rn_pF (b := (decide (f < 0))) rfl h11 rfl) ?_
        refine s1 (v := (.bool (decide (n ≤ f)))) (rn_mv rfl) ?_
        rcases Bool.eq_false_or_eq_true (decide (n ≤ f)) with h16 | h16
        ·
          have p17 := of_decide_eq_true h16
          refine g_not rfl rfl rfl h16 ?_
          refine g_not rfl rfl rfl h16 ?_
          refine s1 (v := (.bool true)) (rn_pT (b := (decide (n ≤ f))) rfl h16 rfl) ?_
          refine s1 (v := (.bool true)) (rn_mv rfl) ?_
          refine g_not rfl rfl rfl rfl ?_
          refine g_not rfl rfl rfl rfl ?_
          refine g_not rfl rfl rfl rfl ?_
          refine s1 (v := (.bool true)) (rn_pT (b := true) rfl rfl rfl) ?_
          refine s1 (v := (.bool true)) (rn_mv rfl) ?_
          refine g_not rfl rfl rfl rfl ?_
          refine g_not rfl rfl rfl rfl ?_
          refine g_not rfl rfl rfl rfl ?_
          refine g_not rfl rfl rfl rfl ?_
          refine s1 (v := (.bool true)) (rn_pT (b := true) rfl rfl rfl) ?_
          refine s1 (v := (.bool true)) (rn_mv rfl) ?_
          refine g_not rfl rfl rfl rfl ?_
          refine g_not rfl rfl rfl rfl ?_
          refine g_not rfl rfl rfl rfl ?_
          refine s1 (v := (.bool true)) (rn_pT (b := true) rfl rfl rfl) ?_
          refine w_end ?_
          refine c_T (b := true) rfl rfl ?_
          refine c_rs ?_
          refine s_callP e25 (v := (.bool true)) (vs := []) rfl (alive14_c) (fun w18 x19 => ?_)
          replace hE := hE.step0 x19
          replace hl := hl.ext0 x19
          replace ho := ho.ext0 x19
          clear x19
          refine s1 (v := (.bool true)) (rn_as rfl) ?_
          refine w_end ?_
          refine c_ret ?_
          refine t_ret ?_
          refine bp_ret (rs1 rfl (rv_tmp (v := (.bool true)) rfl)) ?_
          exact ⟨rfl, hE⟩
        ·
          have p20 := of_decide_eq_false h16
          refine g_yes rfl rfl rfl h16 ?_
          refine s1 (v := (i64 self)) (rn_mv rfl) ?_
          refine g_yes rfl rfl rfl h16 ?_
          refine s1 (v := (.bool (decide (self < 0)))) (rn_lss (m := self) (n := 0) rfl rfl) ?_
          refine s1 (v := (.bool (decide (self < 0)))) (rn_pF (b := (decide (n ≤ f))) rfl h16 rfl) ?_
          refine s1 (v := (.bool (decide (self < 0)))) (rn_mv rfl) ?_
          rcases Bool.eq_false_or_eq_true (decide (self < 0)) with h21 | h21
          ·
            have p22 := of_decide_eq_true h21
            refine g_not rfl rfl rfl h21 ?_
            refine g_not rfl rfl rfl h21 ?_
            refine g_not rfl rfl rfl h21 ?_
            refine s1 (v := (.bool true)) (rn_pT (b := (decide (self < 0))) rfl h21 rfl) ?_
            refine s1 (v := (.bool true)) (rn_mv rfl) ?_
            refine g_not rfl rfl rfl rfl ?_
            refine g_not rfl rfl rfl rfl ?_
            refine g_not rfl rfl rfl rfl ?_
            refine g_not rfl rfl rfl rfl ?_
            refine s1 (v := (.bool true)) (rn_pT (b := true) rfl rfl rfl) ?_
            refine s1 (v := (.bool true)) (rn_mv rfl) ?_
            refine g_not rfl rfl rfl rfl ?_
            refine g_not rfl rfl rfl rfl ?_
            refine g_not rfl rfl rfl rfl ?_
            refine s1 (v := (.bool true)) (rn_pT (b := true) rfl rfl rfl) ?_
            refine w_end ?_
            refine c_T (b := true) rfl rfl ?_
            refine c_rs ?_
            refine s_callP e25 (v := (.bool true)) (vs := []) rfl (alive14_c) (fun w23 x24 => ?_)
            replace hE := hE.step0 x24
            replace hl := hl.ext0 x24
            replace ho := ho.ext0 x24
            clear x24
            refine s1 (v := (.bool true)) (rn_as rfl) ?_
            refine w_end ?_
            refine c_ret ?_
            refine t_ret ?_
            refine bp_ret (rs1 rfl (rv_tmp (v := (.bool true)) rfl)) ?_
            exact ⟨rfl, hE⟩
          ·
            have p25 := of_decide_eq_false h21
            refine g_yes rfl rfl rfl h21 ?_
            refine s1 (v := (i64 self)) (rn_mv rfl) ?_
            refine g_yes rfl rfl rfl h21 ?_
            refine s1 (v := (i64 n)) (rn_mv rfl) ?_
            refine g_yes rfl rfl rfl h21 ?_
            refine s1 (v := (.bool (decide (n ≤ self)))) (rn_geq (m := self) (n := n) rfl rfl) ?_
            refine s1 (v := (.bool (decide (n ≤ self)))) (rn_pF (b := (decide (self < 0))) rfl h21 rfl) ?_
            refine s1 (v := (.bool (decide (n ≤ self)))) (rn_mv rfl) ?_
            rcases Bool.eq_false_or_eq_true (decide (n ≤ self)) with h26 | h26
            ·
              have p27 := of_decide_eq_true h26
              refine g_not rfl rfl rfl h26 ?_
              refine g_not rfl rfl rfl h26 ?_
              refine g_not rfl rfl rfl h26 ?_
              refine g_not rfl rfl rfl h26 ?_
              refine s1 (v := (.bool true)) (rn_pT (b := (decide (n ≤ self))) rfl h26 rfl) ?_
              refine s1 (v := (.bool true)) (rn_mv rfl) ?_
              refine g_not rfl rfl rfl rfl ?_
              refine g_not rfl rfl rfl rfl ?_
              refine g_not rfl rfl rfl rfl ?_
              refine s1 (v := (.bool true)) (rn_pT (b := true) rfl rfl rfl) ?_
              refine w_end ?_
              refine c_T (b := true) rfl rfl ?_
              refine c_rs ?_
              refine s_callP e25 (v := (.bool true)) (vs := []) rfl (alive14_c) (fun w28 x29 => ?_)
              replace hE := hE.step0 x29
              replace hl := hl.ext0 x29
              replace ho := ho.ext0 x29
              clear x29
              refine s1 (v := (.bool true)) (rn_as rfl) ?_
              refine w_end ?_
              refine c_ret ?_
              refine t_ret ?_
              refine bp_ret (rs1 rfl (rv_tmp (v := (.bool true)) rfl)) ?_
              exact ⟨rfl, hE⟩
            ·
              have p30 := of_decide_eq_false h26
              refine g_yes rfl rfl rfl h26 ?_
              refine s1 (v := (.slice A l.length c)) (rn_mv rfl) ?_
              refine g_yes rfl rfl rfl h26 ?_
              refine s1 (v := (i64 (l.length : Int))) (rn_len is39 rfl) ?_
              refine g_yes rfl rfl rfl h26 ?_
              refine s1 (v := (i64 n)) (rn_mv rfl) ?_
              refine g_yes rfl rfl rfl h26 ?_
              refine s1 (v := (.bool (decide ((l.length : Int) ≠ n)))) (rn_neq (m := (l.length : Int)) (n := n) rfl rfl) ?_
              refine s1 (v := (.bool (decide ((l.length : Int) ≠ n)))) (rn_pF (b := (decide (n ≤ self))) rfl h26 rfl) ?_
              refine s1 (v := (.bool (decide ((l.length : Int) ≠ n)))) (rn_mv rfl) ?_
              rcases Bool.eq_false_or_eq_true (decide ((l.length : Int) ≠ n)) with h31 | h31
              ·
                have p32 := of_decide_eq_true h31
                refine g_not rfl rfl rfl h31 ?_
                refine g_not rfl rfl rfl h31 ?_
                refine g_not rfl rfl rfl h31 ?_
                refine s1 (v := (.bool true)) (rn_pT (b := (decide ((l.length : Int) ≠ n))) rfl h31 rfl) ?_
                refine w_end ?_
                refine c_T (b := true) rfl rfl ?_
                refine c_rs ?_
                refine s_callP e25 (v := (.bool true)) (vs := []) rfl (alive14_c) (fun w33 x34 => ?_)
                replace hE := hE.step0 x34
                replace hl := hl.ext0 x34
                replace ho := ho.ext0 x34
                clear x34
                refine s1 (v := (.bool true)) (rn_as rfl) ?_
                refine w_end ?_
                refine c_ret ?_
                refine t_ret ?_
                refine bp_ret (rs1 rfl (rv_tmp (v := (.bool true)) rfl)) ?_
                exact ⟨rfl, hE⟩
              ·
                have p35 := of_decide_eq_false h31
                refine g_yes rfl rfl rfl h31 ?_
                refine s1 (v := (.slice B ord.length c')) (rn_mv rfl) ?_
                refine g_yes rfl rfl rfl h31 ?_
                refine s1 (v := (i64 (ord.length : Int))) (rn_len is40 rfl) ?_
                refine g_yes rfl rfl rfl h31 ?_
                refine s1 (v := (.bool (decide (100 < (ord.length : Int))))) (rn_gtr (m := (ord.length : Int)) (n := 100) rfl rfl) ?_
                refine s1 (v := (.bool (decide (100 < (ord.length : Int))))) (rn_pF (b := (decide ((l.length : Int) ≠ n))) rfl h31 rfl) ?_
                refine w_end ?_
                refine c_if (b := (decide (100 < (ord.length : Int)))) rfl (fun h36 => ?_) (fun h36 => ?_)
                ·
                  have p37 := of_decide_eq_true h36
                  refine c_rs ?_
                  refine s_callP e25 (v := (.bool true)) (vs := []) rfl (alive14_c) (fun w38 x39 => ?_)
                  replace hE := hE.step0 x39
                  replace hl := hl.ext0 x39
                  replace ho := ho.ext0 x39
                  clear x39
                  refine s1 (v := (.bool true)) (rn_as rfl) ?_
                  refine w_end ?_
                  refine c_ret ?_
                  refine t_ret ?_
                  refine bp_ret (rs1 rfl (rv_tmp (v := (.bool true)) rfl)) ?_
                  exact ⟨rfl, hE⟩
                ·
                  have p40 := of_decide_eq_false h36
                  refine c_skip' ?_
                  refine t_norm ?_
                  refine c_rs ?_
                  refine s1 (v := (i64 n)) (rn_mv rfl) ?_
                  refine s1 (v := (i64 f)) (rn_mv rfl) ?_
                  refine s1 (v := (.slice A l.length c)) (rn_mv rfl) ?_
                  refine s_callP e26 (v := (.tuple #[(S4.val (coverS n f l)), (i64 (coverE n l))])) (vs := [(i64 n), (i64 f), (.slice A l.length c)]) rfl (Cover_c (c := c) n f hl (by omega) (by omega) (by omega) (by omega) (by omega)) (fun w41 x42 => ?_)
                  replace hE := hE.step0 x42
                  replace hl := hl.ext0 x42
                  replace ho := ho.ext0 x42
                  clear x42
                  obtain ⟨cv, hcv⟩ : ∃ cv, cv = coverS n f l := ⟨_, rfl⟩
                  rw [← hcv]
                  refine s1 (v := (.tuple #[(S4.val cv), (i64 (coverE n l))])) (rn_mv rfl) ?_
                  refine s1 (v := (S4.val cv)) (rn_ex (vs := [(S4.val cv), (i64 (coverE n l))]) rfl rfl) ?_
                  refine s1 (v := (i64 (coverE n l))) (rn_ex (vs := [(S4.val cv), (i64 (coverE n l))]) rfl rfl) ?_
                  refine s_alloc (cs := [(u32 0), (u32 0), (u32 0), (u32 0)]) z34 rfl (fun b43 w44 hb43 gb43 x45 => ?_)
                  have nb43_hE : w0.heap.size ≤ b43 := Nat.le_trans hE.size gb43
                  clear gb43
                  replace hE := hE.step0 x45
                  replace hl := hl.ext0 x45
                  replace ho := ho.ext0 x45
                  clear x45
                  refine s_st (v := (S4.val cv)) (vs := (S4.cells cv)) (cs' := (S4.cells cv)) g34.2 rfl rfl rfl rfl hb43 (by simp) rfl rfl (fun w46 h_ x47 => ?_)
                  replace hE := hE.step1 x47 (by first | (left; simp; done) | (right; omega))
                  replace hl := hl.ext1 x47 (by omega)
                  replace ho := ho.ext1 x47 (by omega)
                  clear x47
                  replace hb43 := h_; clear h_
                  refine s1 (v := (i64 (coverE n l))) (rn_as rfl) ?_
                  refine w_end ?_
                  refine c_seq ?_
                  refine c_rs ?_
                  refine s1 (v := (i64 (coverE n l))) (rn_mv rfl) ?_
                  refine s1 (v := (.bool (decide (coverE n l ≠ 0)))) (rn_neq (m := coverE n l) (n := 0) rfl rfl) ?_
                  refine w_end ?_
                  refine c_if (b := (decide (coverE n l ≠ 0))) rfl (fun h48 => ?_) (fun h48 => ?_)
                  ·
                    have p49 := of_decide_eq_true h48
                    refine c_rs ?_
                    have he74 : coverE n l = 74 := by { have h_ := of_decide_eq_true h48; unfold coverE at h_ ⊢; split at h_; exact absurd rfl h_; rename_i h2_; rw [if_neg h2_] }
                    refine s_callP e25 (v := (.bool true)) (vs := []) rfl (alive14_c) (fun w50 x51 => ?_)
                    replace hE := hE.step0 x51
                    replace hb43 := hb43.ext0 x51
                    replace hl := hl.ext0 x51
                    replace ho := ho.ext0 x51
                    clear x51
                    refine s1 (v := (.bool true)) (rn_mv rfl) ?_
                    refine g_yes rfl rfl rfl rfl ?_
                    refine s1 (v := (i64 (coverE n l))) (rn_mv rfl) ?_
                    refine g_yes rfl rfl rfl rfl ?_
                    refine s1 (v := (.bool (decide (coverE n l = 74)))) (rn_eql (m := coverE n l) (n := 74) rfl rfl) ?_
                    refine s1 (v := (.bool (decide (coverE n l = 74)))) (rn_pT (b := true) rfl rfl rfl) ?_
                    refine s1 (v := (.bool (decide (coverE n l = 74)))) (rn_as rfl) ?_
                    refine w_end ?_
                    refine c_ret ?_
                    refine t_ret ?_
                    refine bp_ret (rs1 rfl (rv_tmp (v := (.bool (decide (coverE n l = 74)))) rfl)) ?_
                    exact ⟨by rw [decide_eq_true he74], hE⟩
                  ·
                    have p52 := of_decide_eq_false h48
                    refine c_skip' ?_
                    refine t_norm ?_
                    refine c_rs ?_
                    have hall : allW n l = true := by { have h_ := of_decide_eq_false h48; by_cases h2_ : allW n l = true; exact h2_; exfalso; apply h_; unfold coverE; rw [if_neg h2_]; decide }
                    refine s1 (v := (i64 n)) (rn_mv rfl) ?_
                    refine s1 (v := (i64 f)) (rn_mv rfl) ?_
                    refine s1 (v := (i64 self)) (rn_mv rfl) ?_
                    refine s1 (v := (.slice A l.length c)) (rn_mv rfl) ?_
                    refine s1 (v := (i64 self)) (rn_mv rfl) ?_
                    obtain ⟨x56, o53, hx57, hA54, el55⟩ := hl.el (k := (self).toNat) (by omega)
                    refine s1 (v := (ptr gl (o53 + (self).toNat * 4))) (rn_ie is39 rfl hA54 rfl (by omega) (by omega) rfl) ?_
                    refine s1 (v := (S4.val x56)) (rn_ldN (vs := (S4.cells x56)) g34 rfl rfl el55) ?_
                    refine s_call e27 (vs := [(i64 n), (i64 f), (i64 self), (i64 1), (S4.val x56)]) rfl (NewT_c n f self 1 x56 (by omega) (by omega) (by omega) (by omega) (by omega) (by omega) (by omega) (by omega) (allW_at hall hx57)) ?_
                    rintro _ w60 ⟨p58, v59, rfl, hb61, hO62, gp58, gvv59, x63⟩
                    have hNw : w0.heap.size ≤ w46.heap.size := hE.size
                    have hNp := gp58
                    have hN_b43 := hb43.lt
                    have nvv59 : ∀ c ∈ obl v59, w0.heap.size ≤ c := fun c hc => Nat.le_trans hE.size (gvv59 c hc)
                    have ovv59_b43 : ∀ c ∈ obl v59, b43 < c := fun c hc => Nat.lt_of_lt_of_le hb43.lt (gvv59 c hc)
                    have np58_hE : w0.heap.size ≤ p58 := Nat.le_trans hE.size gp58
                    have op58 : b43 < p58 := Nat.lt_of_lt_of_le hb43.lt gp58
                    clear gp58
                    replace hE := hE.step0 x63
                    replace hb43 := hb43.ext0 x63
                    replace el55 := el55.ext0 x63
                    replace hl := hl.ext0 x63
                    replace ho := ho.ext0 x63
                    clear x63
                    refine s1 (v := (.tuple #[(ptr p58 0), (i64 0)])) (rn_mv rfl) ?_
                    refine s1 (v := (ptr p58 0)) (rn_ex (vs := [(ptr p58 0), (i64 0)]) rfl rfl) ?_
                    refine s1 (v := (i64 0)) (rn_ex (vs := [(ptr p58 0), (i64 0)]) rfl rfl) ?_
                    refine s1 (v := (ptr p58 0)) (rn_as rfl) ?_
                    refine s1 (v := (i64 0)) (rn_as rfl) ?_
                    refine w_end ?_
                    refine fr_eq (l' := (lk [(i64 n), (i64 f), (i64 self), (.slice A l.length c), (.slice B ord.length c'), undef, undef, undef, undef, undef, (.bool false), (ptr b43 0), (i64 (coverE n l)), (ptr p58 0), (i64 0), undef, undef, undef, undef, (i64 n), (.bool (decide (n < 1))), (.bool (decide (n < 1))), (i64 n), (.bool (decide (20 < n))), (.bool (decide (20 < n))), (.bool (decide (20 < n))), (i64 f), (.bool (decide (f < 0))), (.bool (decide (f < 0))), (.bool (decide (f < 0))), (i64 f), (i64 n), (.bool (decide (n ≤ f))), (.bool (decide (n ≤ f))), (.bool (decide (n ≤ f))), (i64 self), (.bool (decide (self < 0))), (.bool (decide (self < 0))), (.bool (decide (self < 0))), (i64 self), (i64 n), (.bool (decide (n ≤ self))), (.bool (decide (n ≤ self))), (.bool (decide (n ≤ self))), (.slice A l.length c), (i64 (l.length : Int)), (i64 n), (.bool (decide ((l.length : Int) ≠ n))), (.bool (decide ((l.length : Int) ≠ n))), (.bool (decide ((l.length : Int) ≠ n))), (.slice B ord.length c'), (i64 (ord.length : Int)), (.bool (decide (100 < (ord.length : Int)))), (.bool (decide (100 < (ord.length : Int)))), undef, (.tuple #[(S4.val cv), (i64 (coverE n l))]), (i64 n), (i64 f), (.slice A l.length c), (.tuple #[(S4.val cv), (i64 (coverE n l))]), (S4.val cv), (i64 (coverE n l)), (i64 (coverE n l)), (.bool (decide (coverE n l ≠ 0))), undef, undef, undef, undef, undef, (.tuple #[(ptr p58 0), (i64 0)]), (i64 n), (i64 f), (i64 self), (.slice A l.length c), (i64 self), (ptr gl (o53 + (self).toNat * 4)), (S4.val x56), (.tuple #[(ptr p58 0), (i64 0)]), (ptr p58 0), (i64 0), undef, undef, undef, undef, undef, undef, undef, undef, undef, undef, undef, undef, undef, undef, undef, undef, undef, undef, undef, undef, undef, undef, undef, undef, undef, undef, undef, undef, undef, undef, undef, undef, undef, undef, undef, undef, undef, undef, undef, undef, undef, undef, undef, undef, undef, undef, undef, undef, undef, undef, undef, undef, undef, undef, undef, undef, undef, undef, undef, undef, undef, undef, undef, undef, undef, undef, undef, undef, undef, undef, undef, undef, undef, undef])) (by kernel_rfl) ?_
                    refine c_seq ?_
                    refine c_rs ?_
                    refine s1 (v := (i64 0)) (rn_mv rfl) ?_
                    refine s1 (v := (.bool false)) (rn_neq (m := 0) (n := 0) rfl rfl) ?_
                    refine w_end ?_
                    refine c_F (b := false) rfl rfl ?_
                    refine c_skip' ?_
                    refine t_norm ?_
                    refine c_seq ?_
                    refine c_rs ?_
                    have hq := q_firstI (n := n) (need := n - f) (self := self) (by omega) (by omega) (by omega) (by omega) hx57
                    refine s1 (v := (i64 0)) (rn_as rfl) ?_
                    refine w_end ?_
                    refine c_block ?_
                    refine c_loop (fun d a w => ∃ (k64 : Nat) (rep65 : S4) (hs66 : List S4) (v67 : Value) (z_k64 : Nat → Value) , a = Fr 154 (lk [(i64 n), (i64 f), (i64 self), (.slice A l.length c), (.slice B ord.length c'), undef, undef, undef, undef, undef, (.bool false), (ptr b43 0), (i64 (coverE n l)), (ptr p58 0), (i64 0), (i64 (k64 : Int)), undef, undef, undef, (i64 n), (.bool (decide (n < 1))), (.bool (decide (n < 1))), (i64 n), (.bool (decide (20 < n))), (.bool (decide (20 < n))), (.bool (decide (20 < n))), (i64 f), (.bool (decide (f < 0))), (.bool (decide (f < 0))), (.bool (decide (f < 0))), (i64 f), (i64 n), (.bool (decide (n ≤ f))), (.bool (decide (n ≤ f))), (.bool (decide (n ≤ f))), (i64 self), (.bool (decide (self < 0))), (.bool (decide (self < 0))), (.bool (decide (self < 0))), (i64 self), (i64 n), (.bool (decide (n ≤ self))), (.bool (decide (n ≤ self))), (.bool (decide (n ≤ self))), (.slice A l.length c), (i64 (l.length : Int)), (i64 n), (.bool (decide ((l.length : Int) ≠ n))), (.bool (decide ((l.length : Int) ≠ n))), (.bool (decide ((l.length : Int) ≠ n))), (.slice B ord.length c'), (i64 (ord.length : Int)), (.bool (decide (100 < (ord.length : Int)))), (.bool (decide (100 < (ord.length : Int)))), undef, (.tuple #[(S4.val cv), (i64 (coverE n l))]), (i64 n), (i64 f), (.slice A l.length c), (.tuple #[(S4.val cv), (i64 (coverE n l))]), (S4.val cv), (i64 (coverE n l)), (i64 (coverE n l)), (.bool (decide (coverE n l ≠ 0))), undef, undef, undef, undef, undef, (.tuple #[(ptr p58 0), (i64 0)]), (i64 n), (i64 f), (i64 self), (.slice A l.length c), (i64 self), (ptr gl (o53 + (self).toNat * 4)), (S4.val x56), (.tuple #[(ptr p58 0), (i64 0)]), (ptr p58 0), (i64 0), (i64 0), (.bool false), (z_k64 82), (z_k64 83), (z_k64 84), (z_k64 85), (z_k64 86), (z_k64 87), (z_k64 88), (z_k64 89), (z_k64 90), (z_k64 91), (z_k64 92), (z_k64 93), (z_k64 94), (z_k64 95), (z_k64 96), (z_k64 97), (z_k64 98), (z_k64 99), (z_k64 100), (z_k64 101), (z_k64 102), (z_k64 103), (z_k64 104), (z_k64 105), (z_k64 106), (z_k64 107), (z_k64 108), (z_k64 109), (z_k64 110), (z_k64 111), (z_k64 112), (z_k64 113), undef, undef, undef, undef, undef, undef, undef, undef, undef, undef, undef, undef, undef, undef, undef, undef, undef, undef, undef, undef, undef, undef, undef, undef, undef, undef, undef, undef, undef, undef, undef, undef, undef, undef, undef, undef, undef, undef, undef, undef]) [] ∧ d = ord.length - k64 ∧ k64 ≤ ord.length ∧ Ext [] w0 w ∧ Blk w b43 34 (S4.cells cv) ∧ Blk w p58 138 [(i64 n), (i64 (n - f)), (i64 1), (u32 rep65.a), (u32 rep65.b), (u32 rep65.c), (u32 rep65.d), v67] ∧ Ls S4.cells 4 w gl A l ∧ Ls I1.cells 1 w go B ord ∧ Ow w46.heap.size 34 S4.cells 4 w v67 hs66 ∧ (QInv n.toNat (n - f) l rep65 hs66)) (ord.length - 0) ?_ ?_
                    · exact ⟨0, (withS (S4.mk 0 0 0 0) (Int.toNat self)), (([] : List S4) ++ [x56]), v59, (lk [(i64 n), (i64 f), (i64 self), (.slice A l.length c), (.slice B ord.length c'), undef, undef, undef, undef, undef, (.bool false), (ptr b43 0), (i64 (coverE n l)), (ptr p58 0), (i64 0), (i64 0), undef, undef, undef, (i64 n), (.bool (decide (n < 1))), (.bool (decide (n < 1))), (i64 n), (.bool (decide (20 < n))), (.bool (decide (20 < n))), (.bool (decide (20 < n))), (i64 f), (.bool (decide (f < 0))), (.bool (decide (f < 0))), (.bool (decide (f < 0))), (i64 f), (i64 n), (.bool (decide (n ≤ f))), (.bool (decide (n ≤ f))), (.bool (decide (n ≤ f))), (i64 self), (.bool (decide (self < 0))), (.bool (decide (self < 0))), (.bool (decide (self < 0))), (i64 self), (i64 n), (.bool (decide (n ≤ self))), (.bool (decide (n ≤ self))), (.bool (decide (n ≤ self))), (.slice A l.length c), (i64 (l.length : Int)), (i64 n), (.bool (decide ((l.length : Int) ≠ n))), (.bool (decide ((l.length : Int) ≠ n))), (.bool (decide ((l.length : Int) ≠ n))), (.slice B ord.length c'), (i64 (ord.length : Int)), (.bool (decide (100 < (ord.length : Int)))), (.bool (decide (100 < (ord.length : Int)))), undef, (.tuple #[(S4.val cv), (i64 (coverE n l))]), (i64 n), (i64 f), (.slice A l.length c), (.tuple #[(S4.val cv), (i64 (coverE n l))]), (S4.val cv), (i64 (coverE n l)), (i64 (coverE n l)), (.bool (decide (coverE n l ≠ 0))), undef, undef, undef, undef, undef, (.tuple #[(ptr p58 0), (i64 0)]), (i64 n), (i64 f), (i64 self), (.slice A l.length c), (i64 self), (ptr gl (o53 + (self).toNat * 4)), (S4.val x56), (.tuple #[(ptr p58 0), (i64 0)]), (ptr p58 0), (i64 0), (i64 0), (.bool false), undef, undef, undef, undef, undef, undef, undef, undef, undef, undef, undef, undef, undef, undef, undef, undef, undef, undef, undef, undef, undef, undef, undef, undef, undef, undef, undef, undef, undef, undef, undef, undef, undef, undef, undef, undef, undef, undef, undef, undef, undef, undef, undef, undef, undef, undef, undef, undef, undef, undef, undef, undef, undef, undef, undef, undef, undef, undef, undef, undef, undef, undef, undef, undef, undef, undef, undef, undef, undef, undef, undef, undef]), Fr_congr (by kernel_rfl), rfl, Nat.zero_le _, hE, hb43, hb61, hl, ho, hO62, hq⟩
                    clear hE
                    clear hb43
                    clear hb61
                    clear hl
                    clear ho
                    clear hO62
                    rintro d a w68 ⟨k64, rep65, hs66, v67, z_k64, rfl, rfl, hlek64, hE, hb43, hb61, hl, ho, hO62, hq⟩
                    have hql := hq.le
                    refine c_seq ?_
                    refine c_rs ?_
                    refine s1 (v := (i64 (k64 : Int))) (rn_mv rfl) ?_
                    refine s1 (v := (.slice B ord.length c')) (rn_mv rfl) ?_
                    refine s1 (v := (i64 (ord.length : Int))) (rn_len is40 rfl) ?_
                    refine s1 (v := (.bool (decide ((k64 : Int) < (ord.length : Int))))) (rn_lss (m := (k64 : Int)) (n := (ord.length : Int)) rfl rfl) ?_
                    refine w_end ?_
                    refine c_if (b := (decide ((k64 : Int) < (ord.length : Int)))) rfl (fun h69 => ?_) (fun h69 => ?_)
                    ·
                      have p70 := of_decide_eq_true h69
                      refine c_skip' ?_
                      refine t_norm ?_
                      refine c_seq ?_
                      refine c_block ?_
                      refine c_rs ?_
                      refine s1 (v := (.slice B ord.length c')) (rn_mv rfl) ?_
                      refine s1 (v := (i64 (k64 : Int))) (rn_mv rfl) ?_
                      obtain ⟨x74, o71, hx75, hA72, el73⟩ := ho.el (k := k64) (by omega)
                      refine s1 (v := (ptr go (o71 + k64 * 1))) (rn_ie is40 rfl hA72 rfl (by omega) (by omega) rfl) ?_
                      refine s1 (v := (i64 x74)) (rn_ld1 o3 rfl (el73 0 _ rfl)) ?_
                      refine s1 (v := (.bool (decide (0 ≤ x74)))) (rn_geq (m := x74) (n := 0) rfl rfl) ?_
                      refine s1 (v := (.bool (decide (0 ≤ x74)))) (rn_mv rfl) ?_
                      rcases Bool.eq_false_or_eq_true (decide (0 ≤ x74)) with h76 | h76
                      ·
                        have p77 := of_decide_eq_true h76
                        refine g_yes rfl rfl rfl h76 ?_
                        refine s1 (v := (.slice B ord.length c')) (rn_mv rfl) ?_
                        refine g_yes rfl rfl rfl h76 ?_
                        refine s1 (v := (i64 (k64 : Int))) (rn_mv rfl) ?_
                        refine g_yes rfl rfl rfl h76 ?_
                        refine s1 (v := (ptr go (o71 + k64 * 1))) (rn_ie is40 rfl hA72 rfl (by omega) (by omega) rfl) ?_
                        refine g_yes rfl rfl rfl h76 ?_
                        refine s1 (v := (i64 x74)) (rn_ld1 o3 rfl (el73 0 _ rfl)) ?_
                        refine g_yes rfl rfl rfl h76 ?_
                        refine s1 (v := (i64 n)) (rn_mv rfl) ?_
                        refine g_yes rfl rfl rfl h76 ?_
                        refine s1 (v := (.bool (decide (x74 < n)))) (rn_lss (m := x74) (n := n) rfl rfl) ?_
                        refine s1 (v := (.bool (decide (x74 < n)))) (rn_pT (b := (decide (0 ≤ x74))) rfl h76 rfl) ?_
                        refine w_end ?_
                        refine c_if (b := (decide (x74 < n))) rfl (fun h78 => ?_) (fun h78 => ?_)
                        ·
                          have p79 := of_decide_eq_true h78
                          obtain ⟨x83, o80, hx84, hA81, el82⟩ := hl.el (k := (x74).toNat) (by omega)
                          refine c_dr (n := 12) [.c (ptr p58 0), .c (.slice B ord.length c'), .c (i64 (k64 : Int)), .c (ptr go (o71 + k64 * 1)), .c (i64 x74), .c (.slice A l.length c), .c (.slice B ord.length c'), .c (i64 (k64 : Int)), .c (ptr go (o71 + k64 * 1)), .c (i64 x74), .c (ptr gl (o80 + (x74).toNat * 4)), .c (S4.val x83)] rfl mixed (by kernel_rfl) ?_
                          refine q_v (v := (ptr p58 0)) (fun W hC => rn_mv rfl) ?_
                          refine q_v (v := (.slice B ord.length c')) (fun W hC => rn_mv rfl) ?_
                          refine q_v (v := (i64 (k64 : Int))) (fun W hC => rn_mv rfl) ?_
                          refine q_v (v := (ptr go (o71 + k64 * 1))) (fun W hC => rn_ie is40 rfl hA72 rfl (by omega) (by omega) rfl) ?_
                          refine q_v (v := (i64 x74)) (fun W hC => rn_ld1 o3 rfl ((el73.ext0 hC) 0 _ rfl)) ?_
                          refine q_v (v := (.slice A l.length c)) (fun W hC => rn_mv rfl) ?_
                          refine q_v (v := (.slice B ord.length c')) (fun W hC => rn_mv rfl) ?_
                          refine q_v (v := (i64 (k64 : Int))) (fun W hC => rn_mv rfl) ?_
                          refine q_v (v := (ptr go (o71 + k64 * 1))) (fun W hC => rn_ie is40 rfl hA72 rfl (by omega) (by omega) rfl) ?_
                          refine q_v (v := (i64 x74)) (fun W hC => rn_ld1 o3 rfl ((el73.ext0 hC) 0 _ rfl)) ?_
                          refine q_v (v := (ptr gl (o80 + (x74).toNat * 4))) (fun W hC => rn_ie is39 rfl hA81 rfl (by omega) (by omega) rfl) ?_
                          refine q_v (v := (S4.val x83)) (fun W hC => rn_ldN (vs := (S4.cells x83)) g34 rfl rfl (el82.ext0 hC)) ?_
                          refine ob_end (fun w85 x86 he87 hap88 => ?_)
                          replace hE := hE.step0 x86
                          replace hb43 := hb43.ext0 x86
                          replace hb61 := hb61.ext0 x86
                          replace el73 := el73.ext0 x86
                          replace el82 := el82.ext0 x86
                          replace hl := hl.ext0 x86
                          replace ho := ho.ext0 x86
                          replace hO62 := hO62.ext0 x86
                          clear x86
                          have hpkv89 := hb61.lt
                          refine s_call e28 (vs := [(ptr p58 0), (i64 x74), (i64 1), (S4.val x83)]) rfl (TakeT_c (rep := rep65) hb61 hO62 (by omega) x74 1 x83 (by omega) (by first | omega | simp)) ?_
                          rintro _ w92 ⟨v89, r90, r91, rfl, hb93, hO94, x95, hVv89⟩
                          replace hE := hE.step x95 (fun c hc => by rcases List.mem_cons.1 hc with h_ | h_ <;> first | (left; simp [h_]; done) | (right; omega) | (right; have h1_ := hO62.lt _ h_; omega))
                          replace hb43 := hb43.ext x95 (fun hc => by (rcases List.mem_cons.1 hc with h_ | h_ <;> first | omega | (exfalso; omega) | (simp [obl] at h_; done) | (have h1_ := hO62.lt _ h_; (first | omega | (exfalso; omega)))))
                          replace el73 := el73.ext x95 (fun hc => by (rcases List.mem_cons.1 hc with h_ | h_ <;> first | omega | (exfalso; omega) | (simp [obl] at h_; done) | (have h1_ := hO62.lt _ h_; (first | omega | (exfalso; omega)))))
                          replace el82 := el82.ext x95 (fun hc => by (rcases List.mem_cons.1 hc with h_ | h_ <;> first | omega | (exfalso; omega) | (simp [obl] at h_; done) | (have h1_ := hO62.lt _ h_; (first | omega | (exfalso; omega)))))
                          replace hl := hl.ext x95 (fun hc => by (rcases List.mem_cons.1 hc with h_ | h_ <;> first | omega | (exfalso; omega) | (simp [obl] at h_; done) | (have h1_ := hO62.lt _ h_; (first | omega | (exfalso; omega)))))
                          replace ho := ho.ext x95 (fun hc => by (rcases List.mem_cons.1 hc with h_ | h_ <;> first | omega | (exfalso; omega) | (simp [obl] at h_; done) | (have h1_ := hO62.lt _ h_; (first | omega | (exfalso; omega)))))
                          replace hb61 := hb93; clear hb93
                          replace hO62 := hO94; clear hO94
                          clear x95
                          refine w_nil ?_
                          refine b_norm ?_
                          refine t_norm ?_
                          refine c_r ?_
                          refine s1 (v := (i64 (k64 : Int))) (rn_mv rfl) ?_
                          refine s1 (v := (i64 ((k64 : Int) + 1))) (rn_add (m := (k64 : Int)) (n := 1) rfl rfl (wr64 (by omega) (by omega))) ?_
                          refine s1 (v := (i64 ((k64 : Int) + 1))) (rn_as rfl) ?_
                          refine w_nil ?_
                          refine t_norm ?_
                          exact ⟨ord.length - (k64 + 1), by omega, k64 + 1, (if (ctd n (n - f) 1 rep65 hs66.length x74 1 x83) then withS rep65 (Int.toNat x74) else rep65), (if (ctd n (n - f) 1 rep65 hs66.length x74 1 x83) then hs66 ++ [x83] else hs66), v89, (lk [(i64 n), (i64 f), (i64 self), (.slice A l.length c), (.slice B ord.length c'), undef, undef, undef, undef, undef, (.bool false), (ptr b43 0), (i64 (coverE n l)), (ptr p58 0), (i64 0), (i64 ((k64 : Int) + 1)), undef, undef, undef, (i64 n), (.bool (decide (n < 1))), (.bool (decide (n < 1))), (i64 n), (.bool (decide (20 < n))), (.bool (decide (20 < n))), (.bool (decide (20 < n))), (i64 f), (.bool (decide (f < 0))), (.bool (decide (f < 0))), (.bool (decide (f < 0))), (i64 f), (i64 n), (.bool (decide (n ≤ f))), (.bool (decide (n ≤ f))), (.bool (decide (n ≤ f))), (i64 self), (.bool (decide (self < 0))), (.bool (decide (self < 0))), (.bool (decide (self < 0))), (i64 self), (i64 n), (.bool (decide (n ≤ self))), (.bool (decide (n ≤ self))), (.bool (decide (n ≤ self))), (.slice A l.length c), (i64 (l.length : Int)), (i64 n), (.bool (decide ((l.length : Int) ≠ n))), (.bool (decide ((l.length : Int) ≠ n))), (.bool (decide ((l.length : Int) ≠ n))), (.slice B ord.length c'), (i64 (ord.length : Int)), (.bool (decide (100 < (ord.length : Int)))), (.bool (decide (100 < (ord.length : Int)))), undef, (.tuple #[(S4.val cv), (i64 (coverE n l))]), (i64 n), (i64 f), (.slice A l.length c), (.tuple #[(S4.val cv), (i64 (coverE n l))]), (S4.val cv), (i64 (coverE n l)), (i64 (coverE n l)), (.bool (decide (coverE n l ≠ 0))), undef, undef, undef, undef, undef, (.tuple #[(ptr p58 0), (i64 0)]), (i64 n), (i64 f), (i64 self), (.slice A l.length c), (i64 self), (ptr gl (o53 + (self).toNat * 4)), (S4.val x56), (.tuple #[(ptr p58 0), (i64 0)]), (ptr p58 0), (i64 0), (i64 0), (.bool false), (i64 (k64 : Int)), (.slice B ord.length c'), (i64 (ord.length : Int)), (.bool (decide ((k64 : Int) < (ord.length : Int)))), (i64 (k64 : Int)), (i64 ((k64 : Int) + 1)), (.slice B ord.length c'), (i64 (k64 : Int)), (ptr go (o71 + k64 * 1)), (i64 x74), (.bool (decide (0 ≤ x74))), (.bool (decide (0 ≤ x74))), (.slice B ord.length c'), (i64 (k64 : Int)), (ptr go (o71 + k64 * 1)), (i64 x74), (i64 n), (.bool (decide (x74 < n))), (.bool (decide (x74 < n))), (ptr p58 0), (.slice B ord.length c'), (i64 (k64 : Int)), (ptr go (o71 + k64 * 1)), (i64 x74), (.slice A l.length c), (.slice B ord.length c'), (i64 (k64 : Int)), (ptr go (o71 + k64 * 1)), (i64 x74), (ptr gl (o80 + (x74).toNat * 4)), (S4.val x83), (.tuple #[(i64 r90), (i64 r91)]), undef, undef, undef, undef, undef, undef, undef, undef, undef, undef, undef, undef, undef, undef, undef, undef, undef, undef, undef, undef, undef, undef, undef, undef, undef, undef, undef, undef, undef, undef, undef, undef, undef, undef, undef, undef, undef, undef, undef, undef]), Fr_congr (by kernel_rfl), rfl, by omega, hE, hb43, hb61, hl, ho, hO62, (q_stepI (by omega) (by omega) hall (i := x74) (by omega) (by omega) hx84 hq).1⟩
                        ·
                          have p96 := of_decide_eq_false h78
                          refine c_skip' ?_
                          refine b_norm ?_
                          refine t_norm ?_
                          refine c_r ?_
                          refine s1 (v := (i64 (k64 : Int))) (rn_mv rfl) ?_
                          refine s1 (v := (i64 ((k64 : Int) + 1))) (rn_add (m := (k64 : Int)) (n := 1) rfl rfl (wr64 (by omega) (by omega))) ?_
                          refine s1 (v := (i64 ((k64 : Int) + 1))) (rn_as rfl) ?_
                          refine w_nil ?_
                          refine t_norm ?_
                          exact ⟨ord.length - (k64 + 1), by omega, k64 + 1, rep65, hs66, v67, (lk [(i64 n), (i64 f), (i64 self), (.slice A l.length c), (.slice B ord.length c'), undef, undef, undef, undef, undef, (.bool false), (ptr b43 0), (i64 (coverE n l)), (ptr p58 0), (i64 0), (i64 ((k64 : Int) + 1)), undef, undef, undef, (i64 n), (.bool (decide (n < 1))), (.bool (decide (n < 1))), (i64 n), (.bool (decide (20 < n))), (.bool (decide (20 < n))), (.bool (decide (20 < n))), (i64 f), (.bool (decide (f < 0))), (.bool (decide (f < 0))), (.bool (decide (f < 0))), (i64 f), (i64 n), (.bool (decide (n ≤ f))), (.bool (decide (n ≤ f))), (.bool (decide (n ≤ f))), (i64 self), (.bool (decide (self < 0))), (.bool (decide (self < 0))), (.bool (decide (self < 0))), (i64 self), (i64 n), (.bool (decide (n ≤ self))), (.bool (decide (n ≤ self))), (.bool (decide (n ≤ self))), (.slice A l.length c), (i64 (l.length : Int)), (i64 n), (.bool (decide ((l.length : Int) ≠ n))), (.bool (decide ((l.length : Int) ≠ n))), (.bool (decide ((l.length : Int) ≠ n))), (.slice B ord.length c'), (i64 (ord.length : Int)), (.bool (decide (100 < (ord.length : Int)))), (.bool (decide (100 < (ord.length : Int)))), undef, (.tuple #[(S4.val cv), (i64 (coverE n l))]), (i64 n), (i64 f), (.slice A l.length c), (.tuple #[(S4.val cv), (i64 (coverE n l))]), (S4.val cv), (i64 (coverE n l)), (i64 (coverE n l)), (.bool (decide (coverE n l ≠ 0))), undef, undef, undef, undef, undef, (.tuple #[(ptr p58 0), (i64 0)]), (i64 n), (i64 f), (i64 self), (.slice A l.length c), (i64 self), (ptr gl (o53 + (self).toNat * 4)), (S4.val x56), (.tuple #[(ptr p58 0), (i64 0)]), (ptr p58 0), (i64 0), (i64 0), (.bool false), (i64 (k64 : Int)), (.slice B ord.length c'), (i64 (ord.length : Int)), (.bool (decide ((k64 : Int) < (ord.length : Int)))), (i64 (k64 : Int)), (i64 ((k64 : Int) + 1)), (.slice B ord.length c'), (i64 (k64 : Int)), (ptr go (o71 + k64 * 1)), (i64 x74), (.bool (decide (0 ≤ x74))), (.bool (decide (0 ≤ x74))), (.slice B ord.length c'), (i64 (k64 : Int)), (ptr go (o71 + k64 * 1)), (i64 x74), (i64 n), (.bool (decide (x74 < n))), (.bool (decide (x74 < n))), (z_k64 101), (z_k64 102), (z_k64 103), (z_k64 104), (z_k64 105), (z_k64 106), (z_k64 107), (z_k64 108), (z_k64 109), (z_k64 110), (z_k64 111), (z_k64 112), (z_k64 113), undef, undef, undef, undef, undef, undef, undef, undef, undef, undef, undef, undef, undef, undef, undef, undef, undef, undef, undef, undef, undef, undef, undef, undef, undef, undef, undef, undef, undef, undef, undef, undef, undef, undef, undef, undef, undef, undef, undef, undef]), Fr_congr (by kernel_rfl), rfl, by omega, hE, hb43, hb61, hl, ho, hO62, hq⟩
                      ·
                        have p97 := of_decide_eq_false h76
                        refine g_not rfl rfl rfl h76 ?_
                        refine g_not rfl rfl rfl h76 ?_
                        refine g_not rfl rfl rfl h76 ?_
                        refine g_not rfl rfl rfl h76 ?_
                        refine g_not rfl rfl rfl h76 ?_
                        refine g_not rfl rfl rfl h76 ?_
                        refine s1 (v := (.bool false)) (rn_pF (b := (decide (0 ≤ x74))) rfl h76 rfl) ?_
                        refine w_end ?_
                        refine c_F (b := false) rfl rfl ?_
                        refine c_skip' ?_
                        refine b_norm ?_
                        refine t_norm ?_
                        refine c_r ?_
                        refine s1 (v := (i64 (k64 : Int))) (rn_mv rfl) ?_
                        refine s1 (v := (i64 ((k64 : Int) + 1))) (rn_add (m := (k64 : Int)) (n := 1) rfl rfl (wr64 (by omega) (by omega))) ?_
                        refine s1 (v := (i64 ((k64 : Int) + 1))) (rn_as rfl) ?_
                        refine w_nil ?_
                        refine t_norm ?_
                        exact ⟨ord.length - (k64 + 1), by omega, k64 + 1, rep65, hs66, v67, (lk [(i64 n), (i64 f), (i64 self), (.slice A l.length c), (.slice B ord.length c'), undef, undef, undef, undef, undef, (.bool false), (ptr b43 0), (i64 (coverE n l)), (ptr p58 0), (i64 0), (i64 ((k64 : Int) + 1)), undef, undef, undef, (i64 n), (.bool (decide (n < 1))), (.bool (decide (n < 1))), (i64 n), (.bool (decide (20 < n))), (.bool (decide (20 < n))), (.bool (decide (20 < n))), (i64 f), (.bool (decide (f < 0))), (.bool (decide (f < 0))), (.bool (decide (f < 0))), (i64 f), (i64 n), (.bool (decide (n ≤ f))), (.bool (decide (n ≤ f))), (.bool (decide (n ≤ f))), (i64 self), (.bool (decide (self < 0))), (.bool (decide (self < 0))), (.bool (decide (self < 0))), (i64 self), (i64 n), (.bool (decide (n ≤ self))), (.bool (decide (n ≤ self))), (.bool (decide (n ≤ self))), (.slice A l.length c), (i64 (l.length : Int)), (i64 n), (.bool (decide ((l.length : Int) ≠ n))), (.bool (decide ((l.length : Int) ≠ n))), (.bool (decide ((l.length : Int) ≠ n))), (.slice B ord.length c'), (i64 (ord.length : Int)), (.bool (decide (100 < (ord.length : Int)))), (.bool (decide (100 < (ord.length : Int)))), undef, (.tuple #[(S4.val cv), (i64 (coverE n l))]), (i64 n), (i64 f), (.slice A l.length c), (.tuple #[(S4.val cv), (i64 (coverE n l))]), (S4.val cv), (i64 (coverE n l)), (i64 (coverE n l)), (.bool (decide (coverE n l ≠ 0))), undef, undef, undef, undef, undef, (.tuple #[(ptr p58 0), (i64 0)]), (i64 n), (i64 f), (i64 self), (.slice A l.length c), (i64 self), (ptr gl (o53 + (self).toNat * 4)), (S4.val x56), (.tuple #[(ptr p58 0), (i64 0)]), (ptr p58 0), (i64 0), (i64 0), (.bool false), (i64 (k64 : Int)), (.slice B ord.length c'), (i64 (ord.length : Int)), (.bool (decide ((k64 : Int) < (ord.length : Int)))), (i64 (k64 : Int)), (i64 ((k64 : Int) + 1)), (.slice B ord.length c'), (i64 (k64 : Int)), (ptr go (o71 + k64 * 1)), (i64 x74), (.bool (decide (0 ≤ x74))), (.bool (decide (0 ≤ x74))), undef, undef, undef, undef, undef, undef, (.bool false), (z_k64 101), (z_k64 102), (z_k64 103), (z_k64 104), (z_k64 105), (z_k64 106), (z_k64 107), (z_k64 108), (z_k64 109), (z_k64 110), (z_k64 111), (z_k64 112), (z_k64 113), undef, undef, undef, undef, undef, undef, undef, undef, undef, undef, undef, undef, undef, undef, undef, undef, undef, undef, undef, undef, undef, undef, undef, undef, undef, undef, undef, undef, undef, undef, undef, undef, undef, undef, undef, undef, undef, undef, undef, undef]), Fr_congr (by kernel_rfl), rfl, by omega, hE, hb43, hb61, hl, ho, hO62, hq⟩
                    ·
                      have p98 := of_decide_eq_false h69
                      refine c_exit ?_
                      refine t_exit ?_
                      refine t_exit ?_
                      refine b_here ?_
                      refine t_norm ?_
                      refine c_seq ?_
                      refine c_rs ?_
                      refine s1 (v := (i64 0)) (rn_as rfl) ?_
                      refine w_end ?_
                      refine c_block ?_
                      refine c_loop (fun d a w => ∃ (k99 : Nat) (rep100 : S4) (hs101 : List S4) (v102 : Value) (z_k99 : Nat → Value) , a = Fr 154 (lk [(i64 n), (i64 f), (i64 self), (.slice A l.length c), (.slice B ord.length c'), undef, undef, undef, undef, undef, (.bool false), (ptr b43 0), (i64 (coverE n l)), (ptr p58 0), (i64 0), (i64 (k64 : Int)), (i64 (k99 : Int)), undef, undef, (i64 n), (.bool (decide (n < 1))), (.bool (decide (n < 1))), (i64 n), (.bool (decide (20 < n))), (.bool (decide (20 < n))), (.bool (decide (20 < n))), (i64 f), (.bool (decide (f < 0))), (.bool (decide (f < 0))), (.bool (decide (f < 0))), (i64 f), (i64 n), (.bool (decide (n ≤ f))), (.bool (decide (n ≤ f))), (.bool (decide (n ≤ f))), (i64 self), (.bool (decide (self < 0))), (.bool (decide (self < 0))), (.bool (decide (self < 0))), (i64 self), (i64 n), (.bool (decide (n ≤ self))), (.bool (decide (n ≤ self))), (.bool (decide (n ≤ self))), (.slice A l.length c), (i64 (l.length : Int)), (i64 n), (.bool (decide ((l.length : Int) ≠ n))), (.bool (decide ((l.length : Int) ≠ n))), (.bool (decide ((l.length : Int) ≠ n))), (.slice B ord.length c'), (i64 (ord.length : Int)), (.bool (decide (100 < (ord.length : Int)))), (.bool (decide (100 < (ord.length : Int)))), undef, (.tuple #[(S4.val cv), (i64 (coverE n l))]), (i64 n), (i64 f), (.slice A l.length c), (.tuple #[(S4.val cv), (i64 (coverE n l))]), (S4.val cv), (i64 (coverE n l)), (i64 (coverE n l)), (.bool (decide (coverE n l ≠ 0))), undef, undef, undef, undef, undef, (.tuple #[(ptr p58 0), (i64 0)]), (i64 n), (i64 f), (i64 self), (.slice A l.length c), (i64 self), (ptr gl (o53 + (self).toNat * 4)), (S4.val x56), (.tuple #[(ptr p58 0), (i64 0)]), (ptr p58 0), (i64 0), (i64 0), (.bool false), (i64 (k64 : Int)), (.slice B ord.length c'), (i64 (ord.length : Int)), (.bool (decide ((k64 : Int) < (ord.length : Int)))), (z_k64 86), (z_k64 87), (z_k64 88), (z_k64 89), (z_k64 90), (z_k64 91), (z_k64 92), (z_k64 93), (z_k64 94), (z_k64 95), (z_k64 96), (z_k64 97), (z_k64 98), (z_k64 99), (z_k64 100), (z_k64 101), (z_k64 102), (z_k64 103), (z_k64 104), (z_k64 105), (z_k64 106), (z_k64 107), (z_k64 108), (z_k64 109), (z_k64 110), (z_k64 111), (z_k64 112), (z_k64 113), (z_k99 114), (z_k99 115), (z_k99 116), (z_k99 117), (z_k99 118), (z_k99 119), (z_k99 120), (z_k99 121), (z_k99 122), (z_k99 123), (z_k99 124), (z_k99 125), undef, undef, undef, undef, undef, undef, undef, undef, undef, undef, undef, undef, undef, undef, undef, undef, undef, undef, undef, undef, undef, undef, undef, undef, undef, undef, undef, undef]) [] ∧ d = n.toNat - k99 ∧ k99 ≤ n.toNat ∧ Ext [] w0 w ∧ Blk w b43 34 (S4.cells cv) ∧ Blk w p58 138 [(i64 n), (i64 (n - f)), (i64 1), (u32 rep100.a), (u32 rep100.b), (u32 rep100.c), (u32 rep100.d), v102] ∧ Ls S4.cells 4 w gl A l ∧ Ls I1.cells 1 w go B ord ∧ Ow w46.heap.size 34 S4.cells 4 w v102 hs101 ∧ (QInv n.toNat (n - f) l rep100 hs101) ∧ (∀ j, j < n.toNat → j < k99 → rep100.bit j = true ∨ (hs101.length : Int) = n - f)) (n.toNat - 0) ?_ ?_
                      · exact ⟨0, rep65, hs66, v67, (lk [(i64 n), (i64 f), (i64 self), (.slice A l.length c), (.slice B ord.length c'), undef, undef, undef, undef, undef, (.bool false), (ptr b43 0), (i64 (coverE n l)), (ptr p58 0), (i64 0), (i64 (k64 : Int)), (i64 0), undef, undef, (i64 n), (.bool (decide (n < 1))), (.bool (decide (n < 1))), (i64 n), (.bool (decide (20 < n))), (.bool (decide (20 < n))), (.bool (decide (20 < n))), (i64 f), (.bool (decide (f < 0))), (.bool (decide (f < 0))), (.bool (decide (f < 0))), (i64 f), (i64 n), (.bool (decide (n ≤ f))), (.bool (decide (n ≤ f))), (.bool (decide (n ≤ f))), (i64 self), (.bool (decide (self < 0))), (.bool (decide (self < 0))), (.bool (decide (self < 0))), (i64 self), (i64 n), (.bool (decide (n ≤ self))), (.bool (decide (n ≤ self))), (.bool (decide (n ≤ self))), (.slice A l.length c), (i64 (l.length : Int)), (i64 n), (.bool (decide ((l.length : Int) ≠ n))), (.bool (decide ((l.length : Int) ≠ n))), (.bool (decide ((l.length : Int) ≠ n))), (.slice B ord.length c'), (i64 (ord.length : Int)), (.bool (decide (100 < (ord.length : Int)))), (.bool (decide (100 < (ord.length : Int)))), undef, (.tuple #[(S4.val cv), (i64 (coverE n l))]), (i64 n), (i64 f), (.slice A l.length c), (.tuple #[(S4.val cv), (i64 (coverE n l))]), (S4.val cv), (i64 (coverE n l)), (i64 (coverE n l)), (.bool (decide (coverE n l ≠ 0))), undef, undef, undef, undef, undef, (.tuple #[(ptr p58 0), (i64 0)]), (i64 n), (i64 f), (i64 self), (.slice A l.length c), (i64 self), (ptr gl (o53 + (self).toNat * 4)), (S4.val x56), (.tuple #[(ptr p58 0), (i64 0)]), (ptr p58 0), (i64 0), (i64 0), (.bool false), (i64 (k64 : Int)), (.slice B ord.length c'), (i64 (ord.length : Int)), (.bool (decide ((k64 : Int) < (ord.length : Int)))), (z_k64 86), (z_k64 87), (z_k64 88), (z_k64 89), (z_k64 90), (z_k64 91), (z_k64 92), (z_k64 93), (z_k64 94), (z_k64 95), (z_k64 96), (z_k64 97), (z_k64 98), (z_k64 99), (z_k64 100), (z_k64 101), (z_k64 102), (z_k64 103), (z_k64 104), (z_k64 105), (z_k64 106), (z_k64 107), (z_k64 108), (z_k64 109), (z_k64 110), (z_k64 111), (z_k64 112), (z_k64 113), undef, undef, undef, undef, undef, undef, undef, undef, undef, undef, undef, undef, undef, undef, undef, undef, undef, undef, undef, undef, undef, undef, undef, undef, undef, undef, undef, undef, undef, undef, undef, undef, undef, undef, undef, undef, undef, undef, undef, undef]), Fr_congr (by kernel_rfl), rfl, Nat.zero_le _, hE, hb43, hb61, hl, ho, hO62, hq, (fun j _ h_ => absurd h_ (by omega))⟩
                      clear hE
                      clear hb43
                      clear hb61
                      clear hl
                      clear ho
                      clear hO62
                      rintro d a w103 ⟨k99, rep100, hs101, v102, z_k99, rfl, rfl, hlek99, hE, hb43, hb61, hl, ho, hO62, hq, hd⟩
                      have hql := hq.le
                      refine c_seq ?_
                      refine c_rs ?_
                      refine s1 (v := (i64 (k99 : Int))) (rn_mv rfl) ?_
                      refine s1 (v := (i64 n)) (rn_mv rfl) ?_
                      refine s1 (v := (.bool (decide ((k99 : Int) < n)))) (rn_lss (m := (k99 : Int)) (n := n) rfl rfl) ?_
                      refine w_end ?_
                      refine c_if (b := (decide ((k99 : Int) < n))) rfl (fun h104 => ?_) (fun h104 => ?_)
                      ·
                        have p105 := of_decide_eq_true h104
                        refine c_skip' ?_
                        refine t_norm ?_
                        refine c_seq ?_
                        refine c_block ?_
                        refine c_r ?_
                        refine s1 (v := (ptr p58 0)) (rn_mv rfl) ?_
                        refine s1 (v := (i64 (k99 : Int))) (rn_mv rfl) ?_
                        refine s1 (v := (.slice A l.length c)) (rn_mv rfl) ?_
                        refine s1 (v := (i64 (k99 : Int))) (rn_mv rfl) ?_
                        obtain ⟨x109, o106, hx110, hA107, el108⟩ := hl.el (k := k99) (by omega)
                        refine s1 (v := (ptr gl (o106 + k99 * 4))) (rn_ie is39 rfl hA107 rfl (by omega) (by omega) rfl) ?_
                        refine s1 (v := (S4.val x109)) (rn_ldN (vs := (S4.cells x109)) g34 rfl rfl el108) ?_
                        have hpkv111 := hb61.lt
                        refine s_call e28 (vs := [(ptr p58 0), (i64 (k99 : Int)), (i64 1), (S4.val x109)]) rfl (TakeT_c (rep := rep100) hb61 hO62 (by omega) (k99 : Int) 1 x109 (by omega) (by first | omega | simp)) ?_
                        rintro _ w114 ⟨v111, r112, r113, rfl, hb115, hO116, x117, hVv111⟩
                        replace hE := hE.step x117 (fun c hc => by rcases List.mem_cons.1 hc with h_ | h_ <;> first | (left; simp [h_]; done) | (right; omega) | (right; have h1_ := hO62.lt _ h_; omega))
                        replace hb43 := hb43.ext x117 (fun hc => by (rcases List.mem_cons.1 hc with h_ | h_ <;> first | omega | (exfalso; omega) | (simp [obl] at h_; done) | (have h1_ := hO62.lt _ h_; (first | omega | (exfalso; omega)))))
                        replace el108 := el108.ext x117 (fun hc => by (rcases List.mem_cons.1 hc with h_ | h_ <;> first | omega | (exfalso; omega) | (simp [obl] at h_; done) | (have h1_ := hO62.lt _ h_; (first | omega | (exfalso; omega)))))
                        replace hl := hl.ext x117 (fun hc => by (rcases List.mem_cons.1 hc with h_ | h_ <;> first | omega | (exfalso; omega) | (simp [obl] at h_; done) | (have h1_ := hO62.lt _ h_; (first | omega | (exfalso; omega)))))
                        replace ho := ho.ext x117 (fun hc => by (rcases List.mem_cons.1 hc with h_ | h_ <;> first | omega | (exfalso; omega) | (simp [obl] at h_; done) | (have h1_ := hO62.lt _ h_; (first | omega | (exfalso; omega)))))
                        replace hb61 := hb115; clear hb115
                        replace hO62 := hO116; clear hO116
                        clear x117
                        refine w_nil ?_
                        refine b_norm ?_
                        refine t_norm ?_
                        refine c_r ?_
                        refine s1 (v := (i64 (k99 : Int))) (rn_mv rfl) ?_
                        refine s1 (v := (i64 ((k99 : Int) + 1))) (rn_add (m := (k99 : Int)) (n := 1) rfl rfl (wr64 (by omega) (by omega))) ?_
                        refine s1 (v := (i64 ((k99 : Int) + 1))) (rn_as rfl) ?_
                        refine w_nil ?_
                        refine t_norm ?_
                        exact ⟨n.toNat - (k99 + 1), by omega, k99 + 1, (if (ctd n (n - f) 1 rep100 hs101.length (k99 : Int) 1 x109) then withS rep100 (Int.toNat (k99 : Int)) else rep100), (if (ctd n (n - f) 1 rep100 hs101.length (k99 : Int) 1 x109) then hs101 ++ [x109] else hs101), v111, (lk [(i64 n), (i64 f), (i64 self), (.slice A l.length c), (.slice B ord.length c'), undef, undef, undef, undef, undef, (.bool false), (ptr b43 0), (i64 (coverE n l)), (ptr p58 0), (i64 0), (i64 (k64 : Int)), (i64 ((k99 : Int) + 1)), undef, undef, (i64 n), (.bool (decide (n < 1))), (.bool (decide (n < 1))), (i64 n), (.bool (decide (20 < n))), (.bool (decide (20 < n))), (.bool (decide (20 < n))), (i64 f), (.bool (decide (f < 0))), (.bool (decide (f < 0))), (.bool (decide (f < 0))), (i64 f), (i64 n), (.bool (decide (n ≤ f))), (.bool (decide (n ≤ f))), (.bool (decide (n ≤ f))), (i64 self), (.bool (decide (self < 0))), (.bool (decide (self < 0))), (.bool (decide (self < 0))), (i64 self), (i64 n), (.bool (decide (n ≤ self))), (.bool (decide (n ≤ self))), (.bool (decide (n ≤ self))), (.slice A l.length c), (i64 (l.length : Int)), (i64 n), (.bool (decide ((l.length : Int) ≠ n))), (.bool (decide ((l.length : Int) ≠ n))), (.bool (decide ((l.length : Int) ≠ n))), (.slice B ord.length c'), (i64 (ord.length : Int)), (.bool (decide (100 < (ord.length : Int)))), (.bool (decide (100 < (ord.length : Int)))), undef, (.tuple #[(S4.val cv), (i64 (coverE n l))]), (i64 n), (i64 f), (.slice A l.length c), (.tuple #[(S4.val cv), (i64 (coverE n l))]), (S4.val cv), (i64 (coverE n l)), (i64 (coverE n l)), (.bool (decide (coverE n l ≠ 0))), undef, undef, undef, undef, undef, (.tuple #[(ptr p58 0), (i64 0)]), (i64 n), (i64 f), (i64 self), (.slice A l.length c), (i64 self), (ptr gl (o53 + (self).toNat * 4)), (S4.val x56), (.tuple #[(ptr p58 0), (i64 0)]), (ptr p58 0), (i64 0), (i64 0), (.bool false), (i64 (k64 : Int)), (.slice B ord.length c'), (i64 (ord.length : Int)), (.bool (decide ((k64 : Int) < (ord.length : Int)))), (z_k64 86), (z_k64 87), (z_k64 88), (z_k64 89), (z_k64 90), (z_k64 91), (z_k64 92), (z_k64 93), (z_k64 94), (z_k64 95), (z_k64 96), (z_k64 97), (z_k64 98), (z_k64 99), (z_k64 100), (z_k64 101), (z_k64 102), (z_k64 103), (z_k64 104), (z_k64 105), (z_k64 106), (z_k64 107), (z_k64 108), (z_k64 109), (z_k64 110), (z_k64 111), (z_k64 112), (z_k64 113), (i64 (k99 : Int)), (i64 n), (.bool (decide ((k99 : Int) < n))), (i64 (k99 : Int)), (i64 ((k99 : Int) + 1)), (ptr p58 0), (i64 (k99 : Int)), (.slice A l.length c), (i64 (k99 : Int)), (ptr gl (o106 + k99 * 4)), (S4.val x109), (.tuple #[(i64 r112), (i64 r113)]), undef, undef, undef, undef, undef, undef, undef, undef, undef, undef, undef, undef, undef, undef, undef, undef, undef, undef, undef, undef, undef, undef, undef, undef, undef, undef, undef, undef]), Fr_congr (by kernel_rfl), rfl, by omega, hE, hb43, hb61, hl, ho, hO62, (q_stepI (by omega) (by omega) hall (i := (k99 : Int)) (by omega) (by omega) hx110 hq).1, (fun j hj hjk => (q_stepI (by omega) (by omega) hall (i := (k99 : Int)) (by omega) (by omega) hx110 hq).2 j hj (by by_cases h_ : j = k99; right; omega; left; exact hd j hj (by omega)))⟩
                      ·
                        have p118 := of_decide_eq_false h104
                        refine c_exit ?_
                        refine t_exit ?_
                        refine t_exit ?_
                        refine b_here ?_
                        refine t_norm ?_
                        refine c_rs ?_
                        have hql := hq.le
                        have hQ := quorum_lawI (by omega) (by omega) (by omega) (by omega) (by omega) hall hq (fun j hj => hd j hj (by omega))
                        rw [← hcv] at hQ
                        have hppz := hb61.lt
                        refine s1 (v := (i64 n)) (rn_mv rfl) ?_
                        refine s1 (v := (ptr p58 0)) (rn_mv rfl) ?_
                        refine s_callP e29 (v := (.tuple #[(S4.val (lessS (upToS n) (unionS rep100 (unionL hs101)))), (i64 0)])) (vs := [(i64 n), (ptr p58 0)]) rfl (Missing_c (rep := rep100) n (by omega) (by omega) hb61 hO62 (by omega) hQ.1) (fun w119 x120 => ?_)
                        replace hE := hE.step0 x120
                        replace hb43 := hb43.ext0 x120
                        replace hb61 := hb61.ext0 x120
                        replace hl := hl.ext0 x120
                        replace ho := ho.ext0 x120
                        replace hO62 := hO62.ext0 x120
                        clear x120
                        refine s1 (v := (.tuple #[(S4.val (lessS (upToS n) (unionS rep100 (unionL hs101)))), (i64 0)])) (rn_mv rfl) ?_
                        refine s1 (v := (S4.val (lessS (upToS n) (unionS rep100 (unionL hs101))))) (rn_ex (vs := [(S4.val (lessS (upToS n) (unionS rep100 (unionL hs101)))), (i64 0)]) rfl rfl) ?_
                        refine s1 (v := (i64 0)) (rn_ex (vs := [(S4.val (lessS (upToS n) (unionS rep100 (unionL hs101)))), (i64 0)]) rfl rfl) ?_
                        refine s_alloc (cs := [(u32 0), (u32 0), (u32 0), (u32 0)]) z34 rfl (fun b121 w122 hb121 gb121 x123 => ?_)
                        have nb121_hE : w0.heap.size ≤ b121 := Nat.le_trans hE.size gb121
                        have ob121 : p58 < b121 := Nat.lt_of_lt_of_le hb61.lt gb121
                        have obb121_hO62 : ∀ c ∈ obl v102, c < b121 := fun c hc => Nat.lt_of_lt_of_le (hO62.lt c hc).2 gb121
                        clear gb121
                        replace hE := hE.step0 x123
                        replace hb43 := hb43.ext0 x123
                        replace hb61 := hb61.ext0 x123
                        replace hl := hl.ext0 x123
                        replace ho := ho.ext0 x123
                        replace hO62 := hO62.ext0 x123
                        clear x123
                        refine s_st (v := (S4.val (lessS (upToS n) (unionS rep100 (unionL hs101))))) (vs := (S4.cells (lessS (upToS n) (unionS rep100 (unionL hs101))))) (cs' := (S4.cells (lessS (upToS n) (unionS rep100 (unionL hs101))))) g34.2 rfl rfl rfl rfl hb121 (by simp) rfl rfl (fun w124 h_ x125 => ?_)
                        replace hE := hE.step1 x125 (by first | (left; simp; done) | (right; omega))
                        replace hb43 := hb43.ext1 x125 (by omega)
                        replace hb61 := hb61.ext1 x125 (by omega)
                        replace hl := hl.ext1 x125 (by omega)
                        replace ho := ho.ext1 x125 (by omega)
                        replace hO62 := hO62.ext x125 (fun c hc => by have h_ := hO62.lt c hc; have := obb121_hO62 c hc; simp; omega)
                        clear x125
                        replace hb121 := h_; clear h_
                        refine s1 (v := (i64 0)) (rn_as rfl) ?_
                        refine w_end ?_
                        refine c_seq ?_
                        refine c_dr (n := 23) [.c (.bool true), .c (.bool true), .c (ptr p58 0), .c (.bool (readyB (n - f) hs101.length)), .c (.bool (readyB (n - f) hs101.length)), .c (.bool (readyB (n - f) hs101.length)), .c (i64 0), .c (.bool true), .c (.bool true), .c (.bool true), .c (S4.val (lessS (upToS n) (unionS rep100 (unionL hs101)))), .c (S4.val cv), .c (S4.val (meetS (lessS (upToS n) (unionS rep100 (unionL hs101))) cv)), .c (i64 0), .c (.bool true), .c (.bool true), .c (.bool true), .c (S4.val cv), .c (ptr p58 0), .c (S4.val (unionS rep100 (unionL hs101))), .c (.bool (decide (lessS cv (unionS rep100 (unionL hs101)) = S4.mk 0 0 0 0))), .c (.bool (decide (lessS cv (unionS rep100 (unionL hs101)) = S4.mk 0 0 0 0))), .c (.bool (decide (lessS cv (unionS rep100 (unionL hs101)) = S4.mk 0 0 0 0)))] rfl mixed (by kernel_rfl) ?_
                        refine q_call e25 (v := (.bool true)) (vs := []) rfl (fun W hC => alive14_c) ?_
                        refine q_v (v := (.bool true)) (fun W hC => rn_mv rfl) ?_
                        refine ob_yes rfl rfl rfl rfl ?_
                        refine q_v (v := (ptr p58 0)) (fun W hC => rn_mv rfl) ?_
                        refine ob_yes rfl rfl rfl rfl ?_
                        refine q_call e30 (v := (.bool (readyB (n - f) hs101.length))) (vs := [(ptr p58 0)]) rfl (fun W hC => Ready_c (hb61.ext0 hC) (hO62.ext0 hC)) ?_
                        refine q_v (v := (.bool (readyB (n - f) hs101.length))) (fun W hC => rn_pT (b := true) rfl rfl rfl) ?_
                        refine q_v (v := (.bool (readyB (n - f) hs101.length))) (fun W hC => rn_mv rfl) ?_
                        refine ob_yes rfl rfl rfl hQ.1 ?_
                        refine q_v (v := (i64 0)) (fun W hC => rn_mv rfl) ?_
                        refine ob_yes rfl rfl rfl hQ.1 ?_
                        refine q_v (v := (.bool true)) (fun W hC => rn_eql (m := 0) (n := 0) rfl rfl) ?_
                        refine q_v (v := (.bool true)) (fun W hC => rn_pT (b := (readyB (n - f) hs101.length)) rfl hQ.1 rfl) ?_
                        refine q_v (v := (.bool true)) (fun W hC => rn_mv rfl) ?_
                        refine ob_yes rfl rfl rfl rfl ?_
                        refine q_v (v := (S4.val (lessS (upToS n) (unionS rep100 (unionL hs101))))) (fun W hC => rn_lbN (vs := (S4.cells (lessS (upToS n) (unionS rep100 (unionL hs101))))) g34 rfl (hb121.ext0 hC) rfl rfl) ?_
                        refine ob_yes rfl rfl rfl rfl ?_
                        refine q_v (v := (S4.val cv)) (fun W hC => rn_lbN (vs := (S4.cells cv)) g34 rfl (hb43.ext0 hC) rfl rfl) ?_
                        refine ob_yes rfl rfl rfl rfl ?_
                        refine q_call e32 (v := (S4.val (meetS (lessS (upToS n) (unionS rep100 (unionL hs101))) cv))) (vs := [(S4.val (lessS (upToS n) (unionS rep100 (unionL hs101)))), (S4.val cv)]) rfl (fun W hC => Meet_c (lessS (upToS n) (unionS rep100 (unionL hs101))) cv _) ?_
                        refine ob_yes rfl rfl rfl rfl ?_
                        refine q_call e31 (v := (i64 0)) (vs := [(S4.val (meetS (lessS (upToS n) (unionS rep100 (unionL hs101))) cv))]) rfl (fun W hC => Count0_c (meetS (lessS (upToS n) (unionS rep100 (unionL hs101))) cv) hQ.2.1) ?_
                        refine ob_yes rfl rfl rfl rfl ?_
                        refine q_v (v := (.bool true)) (fun W hC => rn_eql (m := 0) (n := 0) rfl rfl) ?_
                        refine q_v (v := (.bool true)) (fun W hC => rn_pT (b := true) rfl rfl rfl) ?_
                        refine q_v (v := (.bool true)) (fun W hC => rn_mv rfl) ?_
                        refine ob_yes rfl rfl rfl rfl ?_
                        refine q_v (v := (S4.val cv)) (fun W hC => rn_lbN (vs := (S4.cells cv)) g34 rfl (hb43.ext0 hC) rfl rfl) ?_
                        refine ob_yes rfl rfl rfl rfl ?_
                        refine q_v (v := (ptr p58 0)) (fun W hC => rn_mv rfl) ?_
                        refine ob_yes rfl rfl rfl rfl ?_
                        refine q_call e34 (v := (S4.val (unionS rep100 (unionL hs101)))) (vs := [(ptr p58 0)]) rfl (fun W hC => Known_c (hb61.ext0 hC) (hO62.ext0 hC) (by omega)) ?_
                        refine ob_yes rfl rfl rfl rfl ?_
                        refine q_call e33 (v := (.bool (decide (lessS cv (unionS rep100 (unionL hs101)) = S4.mk 0 0 0 0)))) (vs := [(S4.val cv), (S4.val (unionS rep100 (unionL hs101)))]) rfl (fun W hC => Subset_c cv (unionS rep100 (unionL hs101)) _) ?_
                        refine q_v (v := (.bool (decide (lessS cv (unionS rep100 (unionL hs101)) = S4.mk 0 0 0 0)))) (fun W hC => rn_pT (b := true) rfl rfl rfl) ?_
                        refine q_v (v := (.bool (decide (lessS cv (unionS rep100 (unionL hs101)) = S4.mk 0 0 0 0)))) (fun W hC => rn_as rfl) ?_
                        refine ob_end (fun w126 x127 he128 hap129 => ?_)
                        replace hE := hE.step0 x127
                        replace hb43 := hb43.ext0 x127
                        replace hb61 := hb61.ext0 x127
                        replace hb121 := hb121.ext0 x127
                        replace hl := hl.ext0 x127
                        replace ho := ho.ext0 x127
                        replace hO62 := hO62.ext0 x127
                        clear x127
                        refine w_end ?_
                        refine c_ret ?_
                        refine bp_ret (rs1 rfl (rv_tmp (v := (.bool (decide (lessS cv (unionS rep100 (unionL hs101)) = S4.mk 0 0 0 0)))) rfl)) ?_
                        exact ⟨by rw [decide_eq_true hQ.2.2], hE⟩

end Go.Proofs.Ytfdffeameoejfaa
