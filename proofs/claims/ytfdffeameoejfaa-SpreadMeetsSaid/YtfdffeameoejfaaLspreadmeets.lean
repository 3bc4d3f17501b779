/- lspreadmeets: printed walks. -/
import Derived.Test.YtfdffeameoejfaaLaw16
import Derived.Test.YtfdffeameoejfaaPMeets
namespace Go.Proofs.Ytfdffeameoejfaa
open Go Go.RowKit
set_option linter.unusedVariables false
set_option linter.unusedSimpArgs false

set_option maxHeartbeats 800000 in
theorem SpreadMeets_w {A B : Option Addr} {gl gm c c' : Nat} {l m : List N3} {w0 : World} (n self : Int) (hl : Ls N3.cells 3 w0 gl A l) (hml : l.length ≤ 9223372036854775807) (hm : Ls N3.cells 3 w0 gm B m) (hmm : m.length ≤ 9223372036854775807) :
    Calls Try.prog 13 [(i64 n), (i64 self), (.slice A l.length c), (.slice B m.length c')].toArray w0 (Ret (fun v w' => v = .bool true ∧ Ext [] w0 w')) := by
  have hE : Ext [] w0 w0 := (Ext.refl w0).more (by simp)
  have hgl := hl.lt (by simp)
  have hgm := hm.lt (by simp)
  refine enter (vs := [(i64 n), (i64 self), (.slice A l.length c), (.slice B m.length c')]) Try.func13 rfl Try.ntmps13 rfl ?_
  refine c_rs ?_
  refine s1 (v := (.bool false)) (rn_as rfl) ?_
  refine w_end ?_
  refine c_seq ?_
  refine c_rs ?_
  refine s1 (v := (i64 n)) (rn_mv rfl) ?_
  refine s1 (v := (.bool (decide (n < 1)))) (rn_lss (m := n) (n := 1) rfl rfl) ?_
  refine s1 (v := (.bool (decide (n < 1)))) (rn_mv rfl) ?_
  rcases Bool.eq_false_or_eq_true (decide (n < 1)) with h1 | h1
  ·
    have p2 := of_decide_eq_true h1
    refine g_not rfl rfl rfl h1 ?_
    refine g_not rfl rfl rfl h1 ?_
    refine s1 (v := (.bool true)) (rn_pT (b := (decide (n < 1))) rfl h1 rfl) ?_
    refine s1 (v := (.bool true)) (rn_mv rfl) ?_
    refine g_not rfl rfl rfl rfl ?_
    refine g_not rfl rfl rfl rfl ?_
    refine s1 (v := (.bool true)) (rn_pT (b := true) rfl rfl rfl) ?_
    refine s1 (v := (.bool true)) (rn_mv rfl) ?_
    refine g_not rfl rfl rfl rfl ?_
    refine g_not rfl rfl rfl rfl ?_
    refine g_not rfl rfl rfl rfl ?_
    refine s1 (v := (.bool true)) (rn_pT (b := true) rfl rfl rfl) ?_
    refine s1 (v := (.bool true)) (rn_mv rfl) ?_
    refine g_not rfl rfl rfl rfl ?_
    refine g_not rfl rfl rfl rfl ?_
    refine g_not rfl rfl rfl rfl ?_
    refine s1 (v := (.bool true)) (rn_pT (b := true) rfl rfl rfl) ?_
    refine s1 (v := (.bool true)) (rn_mv rfl) ?_
    refine g_not rfl rfl rfl rfl ?_
    refine g_not rfl rfl rfl rfl ?_
    refine g_not rfl rfl rfl rfl ?_
    refine s1 (v := (.bool true)) (rn_pT (b := true) rfl rfl rfl) ?_
    refine w_end ?_
    refine c_T (b := true) rfl rfl ?_
    refine c_rs ?_
    refine s_callP e20 (v := (.bool true)) (vs := []) rfl (alive_c) (fun w3 x4 => ?_)
    replace hE := hE.step0 x4
    replace hl := hl.ext0 x4
    replace hm := hm.ext0 x4
    clear x4
    refine s1 (v := (.bool true)) (rn_as rfl) ?_
    refine w_end ?_
    refine c_ret ?_
    refine t_ret ?_
    refine bp_ret (rs1 rfl (rv_tmp (v := (.bool true)) rfl)) ?_
    exact ⟨rfl, hE⟩
  ·
    have p5 := of_decide_eq_false h1
    refine g_yes rfl rfl rfl h1 ?_
    refine s1 (v := (i64 n)) (rn_mv rfl) ?_
    refine g_yes rfl rfl rfl h1 ?_
    refine s1 (v := (.bool (decide (100 < n)))) (rn_gtr (m := n) (n := 100) rfl rfl) ?_
    refine s1 (v := (.bool (decide (100 < n)))) (rn_pF (b := (decide (n < 1))) rfl h1 rfl) ?_
    refine s1 (v := (.bool (decide (100 < n)))) (rn_mv rfl) ?_
    rcases Bool.eq_false_or_eq_true (decide (100 < n)) with h6 | h6
    ·
      have p7 := of_decide_eq_true h6
      refine g_not rfl rfl rfl h6 ?_
      refine g_not rfl rfl rfl h6 ?_
      refine s1 (v := (.bool true)) (rn_pT (b := (decide (100 < n))) rfl h6 rfl) ?_
      refine s1 (v := (.bool true)) (rn_mv rfl) ?_
      refine g_not rfl rfl rfl rfl ?_
      refine g_not rfl rfl rfl rfl ?_
      refine g_not rfl rfl rfl rfl ?_
      refine s1 (v := (.bool true)) (rn_pT (b := true) rfl rfl rfl) ?_
      refine s1 (v := (.bool true)) (rn_mv rfl) ?_
      refine g_not rfl rfl rfl rfl ?_
      refine g_not rfl rfl rfl rfl ?_
      refine g_not rfl rfl rfl rfl ?_
      refine s1 (v := (.bool true)) (rn_pT (b := true) rfl rfl rfl) ?_
      refine s1 (v := (.bool true)) (rn_mv rfl) ?_
      refine g_not rfl rfl rfl rfl ?_
      refine g_not rfl rfl rfl rfl ?_
      refine g_not rfl rfl rfl rfl ?_
      refine s1 (v := (.bool true)) (rn_pT (b := true) rfl rfl rfl) ?_
      refine w_end ?_
      refine c_T (b := true) rfl rfl ?_
      refine c_rs ?_
      refine s_callP e20 (v := (.bool true)) (vs := []) rfl (alive_c) (fun w8 x9 => ?_)
      replace hE := hE.step0 x9
      replace hl := hl.ext0 x9
      replace hm := hm.ext0 x9
      clear x9
      refine s1 (v := (.bool true)) (rn_as rfl) ?_
      refine w_end ?_
      refine c_ret ?_
      refine t_ret ?_
      refine bp_ret (rs1 rfl (rv_tmp (v := (.bool true)) rfl)) ?_
      exact ⟨rfl, hE⟩
    ·
      have p10 := of_decide_eq_false h6
      refine g_yes rfl rfl rfl h6 ?_
      refine s1 (v := (i64 self)) (rn_mv rfl) ?_
      refine g_yes rfl rfl rfl h6 ?_
      refine s1 (v := (.bool (decide (self < 0)))) (rn_lss (m := self) (n := 0) rfl rfl) ?_
      refine s1 (v := (.bool (decide (self < 0)))) (rn_pF (b := (decide (100 < n))) rfl h6 rfl) ?_
      refine s1 (v := (.bool (decide (self < 0)))) (rn_mv rfl) ?_
      rcases Bool.eq_false_or_eq_true (decide (self < 0)) with h11 | h11
      ·
        have p12 := of_decide_eq_true h11
        refine g_not rfl rfl rfl h11 ?_
        refine g_not rfl rfl rfl h11 ?_
        refine g_not rfl rfl rfl h11 ?_
        refine s1 (v := (.bool true)) (rn_pT (b := (decide (self < 0))) rfl h11 rfl) ?_
        refine s1 (v := (.bool true)) (rn_mv rfl) ?_
        refine g_not rfl rfl rfl rfl ?_
        refine g_not rfl rfl rfl rfl ?_
        refine g_not rfl rfl rfl rfl ?_
        refine s1 (v := (.bool true)) (rn_pT (b := true) rfl rfl rfl) ?_
        refine s1 (v := (.bool true)) (rn_mv rfl) ?_
        refine g_not rfl rfl rfl rfl ?_
        refine g_not rfl rfl rfl rfl ?_
        refine g_not rfl rfl rfl rfl ?_
        refine s1 (v := (.bool true)) (rn_pT (b := true) rfl rfl rfl) ?_
        refine w_end ?_
        refine c_T (b := true) rfl rfl ?_
        refine c_rs ?_
        refine s_callP e20 (v := (.bool true)) (vs := []) rfl (alive_c) (fun w13 x14 => ?_)
        replace hE := hE.step0 x14
        replace hl := hl.ext0 x14
        replace hm := hm.ext0 x14
        clear x14
        refine s1 (v := (.bool true)) (rn_as rfl) ?_
        refine w_end ?_
        refine c_ret ?_
        refine t_ret ?_
        refine bp_ret (rs1 rfl (rv_tmp (v := (.bool true)) rfl)) ?_
        exact ⟨rfl, hE⟩
      ·
        have p15 := of_decide_eq_false h11
        refine g_yes rfl rfl rfl h11 ?_
        refine s1 (v := (i64 self)) (rn_mv rfl) ?_
        refine g_yes rfl rfl rfl h11 ?_
        refine s1 (v := (i64 n)) (rn_mv rfl) ?_
        refine g_yes rfl rfl rfl h11 ?_
        refine s1 (v := (.bool (decide (n ≤ self)))) (rn_geq (m := self) (n := n) rfl rfl) ?_
        refine s1 (v := (.bool (decide (n ≤ self)))) (rn_pF (b := (decide (self < 0))) rfl h11 rfl) ?_
        refine s1 (v := (.bool (decide (n ≤ self)))) (rn_mv rfl) ?_
        rcases Bool.eq_false_or_eq_true (decide (n ≤ self)) with h16 | h16
        ·
          have p17 := of_decide_eq_true h16
          refine g_not rfl rfl rfl h16 ?_
          refine g_not rfl rfl rfl h16 ?_
          refine g_not rfl rfl rfl h16 ?_
          refine s1 (v := (.bool true)) (rn_pT (b := (decide (n ≤ self))) rfl h16 rfl) ?_
          refine s1 (v := (.bool true)) (rn_mv rfl) ?_
          refine g_not rfl rfl rfl rfl ?_
          refine g_not rfl rfl rfl rfl ?_
          refine g_not rfl rfl rfl rfl ?_
          refine s1 (v := (.bool true)) (rn_pT (b := true) rfl rfl rfl) ?_
          refine w_end ?_
          refine c_T (b := true) rfl rfl ?_
          refine c_rs ?_
          refine s_callP e20 (v := (.bool true)) (vs := []) rfl (alive_c) (fun w18 x19 => ?_)
          replace hE := hE.step0 x19
          replace hl := hl.ext0 x19
          replace hm := hm.ext0 x19
          clear x19
          refine s1 (v := (.bool true)) (rn_as rfl) ?_
          refine w_end ?_
          refine c_ret ?_
          refine t_ret ?_
          refine bp_ret (rs1 rfl (rv_tmp (v := (.bool true)) rfl)) ?_
          exact ⟨rfl, hE⟩
        ·
          have p20 := of_decide_eq_false h16
          refine g_yes rfl rfl rfl h16 ?_
          refine s1 (v := (.slice A l.length c)) (rn_mv rfl) ?_
          refine g_yes rfl rfl rfl h16 ?_
          refine s_callP e19 (v := (.bool (decide ((l.length : Int) ≤ 300)))) (vs := [(.slice A l.length c)]) rfl (light_c A l.length c) (fun w21 x22 => ?_)
          replace hE := hE.step0 x22
          replace hl := hl.ext0 x22
          replace hm := hm.ext0 x22
          clear x22
          refine g_yes rfl rfl rfl h16 ?_
          refine s1 (v := (.bool (!(decide ((l.length : Int) ≤ 300))))) (rn_not (b := (decide ((l.length : Int) ≤ 300))) rfl) ?_
          refine s1 (v := (.bool (!(decide ((l.length : Int) ≤ 300))))) (rn_pF (b := (decide (n ≤ self))) rfl h16 rfl) ?_
          refine s1 (v := (.bool (!(decide ((l.length : Int) ≤ 300))))) (rn_mv rfl) ?_
          rcases Bool.eq_false_or_eq_true (!(decide ((l.length : Int) ≤ 300))) with h23 | h23
          ·
            have h24 := not_t h23
            have p25 := of_decide_eq_false h24
            refine g_not rfl rfl rfl h23 ?_
            refine g_not rfl rfl rfl h23 ?_
            refine g_not rfl rfl rfl h23 ?_
            refine s1 (v := (.bool true)) (rn_pT (b := (!(decide ((l.length : Int) ≤ 300)))) rfl h23 rfl) ?_
            refine w_end ?_
            refine c_T (b := true) rfl rfl ?_
            refine c_rs ?_
            refine s_callP e20 (v := (.bool true)) (vs := []) rfl (alive_c) (fun w26 x27 => ?_)
            replace hE := hE.step0 x27
            replace hl := hl.ext0 x27
            replace hm := hm.ext0 x27
            clear x27
            refine s1 (v := (.bool true)) (rn_as rfl) ?_
            refine w_end ?_
            refine c_ret ?_
            refine t_ret ?_
            refine bp_ret (rs1 rfl (rv_tmp (v := (.bool true)) rfl)) ?_
            exact ⟨rfl, hE⟩
          ·
            have h28 := not_f h23
            have p29 := of_decide_eq_true h28
            refine g_yes rfl rfl rfl h23 ?_
            refine s1 (v := (.slice B m.length c')) (rn_mv rfl) ?_
            refine g_yes rfl rfl rfl h23 ?_
            refine s_callP e19 (v := (.bool (decide ((m.length : Int) ≤ 300)))) (vs := [(.slice B m.length c')]) rfl (light_c B m.length c') (fun w30 x31 => ?_)
            replace hE := hE.step0 x31
            replace hl := hl.ext0 x31
            replace hm := hm.ext0 x31
            clear x31
            refine g_yes rfl rfl rfl h23 ?_
            refine s1 (v := (.bool (!(decide ((m.length : Int) ≤ 300))))) (rn_not (b := (decide ((m.length : Int) ≤ 300))) rfl) ?_
            refine s1 (v := (.bool (!(decide ((m.length : Int) ≤ 300))))) (rn_pF (b := (!(decide ((l.length : Int) ≤ 300)))) rfl h23 rfl) ?_
            refine w_end ?_
            refine c_if (b := (!(decide ((m.length : Int) ≤ 300)))) rfl (fun h32 => ?_) (fun h32 => ?_)
            ·
              have h33 := not_t h32
              have p34 := of_decide_eq_false h33
              refine c_rs ?_
              refine s_callP e20 (v := (.bool true)) (vs := []) rfl (alive_c) (fun w35 x36 => ?_)
              replace hE := hE.step0 x36
              replace hl := hl.ext0 x36
              replace hm := hm.ext0 x36
              clear x36
              refine s1 (v := (.bool true)) (rn_as rfl) ?_
              refine w_end ?_
              refine c_ret ?_
              refine t_ret ?_
              refine bp_ret (rs1 rfl (rv_tmp (v := (.bool true)) rfl)) ?_
              exact ⟨rfl, hE⟩
            ·
              have h37 := not_f h32
              have p38 := of_decide_eq_true h37
              refine c_skip' ?_
              refine t_norm ?_
              obtain ⟨s2, hs2, hs20, hs21⟩ : ∃ s2, (self + 1).tmod n = s2 ∧ 0 ≤ s2 ∧ s2 < n := ⟨_, rfl, by rw [Int.tmod_eq_emod_of_nonneg (by omega)]; exact Int.emod_nonneg _ (by omega), by rw [Int.tmod_eq_emod_of_nonneg (by omega)]; exact Int.emod_lt_of_pos _ (by omega)⟩
              refine c_seq ?_
              refine c_dr (n := 11) [.c (i64 n), .c (i64 self), .c (.slice A l.length c), .s (SBk w30.heap.size (mergeR (newL (n).toNat self 0) l)), .c (i64 n), .c (i64 self), .c (i64 (self + 1)), .c (i64 n), .c (i64 s2), .c (.slice B m.length c'), .s (SBk w30.heap.size (mergeR (newL (n).toNat s2 0) m))] rfl mixed (by kernel_rfl) ?_
              refine q_v (v := (i64 n)) (fun W hC => rn_mv rfl) ?_
              refine q_v (v := (i64 self)) (fun W hC => rn_mv rfl) ?_
              refine q_v (v := (.slice A l.length c)) (fun W hC => rn_mv rfl) ?_
              refine q_callS (SBk w30.heap.size (mergeR (newL (n).toNat self 0) l)) (fun _ _ _ _ _ h x => h.ext0 x) e21 (vs := [(i64 n), (i64 self), (.slice A l.length c)]) rfl (fun W hC _ => (have hsz_ := hC.size; have hsy_ := hE.size; made_S (by omega) (made_c (l := l) (A := A) (gl := gl) (c := c) n self (hl.ext0 hC) (by omega) (by omega) (by omega) (by omega) (by first | omega | simp) (by first | omega | simp)))) (fun v47 lov47 hiv47 => ?_)
              refine q_v (v := (i64 n)) (fun W hC => rn_mv rfl) ?_
              refine q_v (v := (i64 self)) (fun W hC => rn_mv rfl) ?_
              refine q_v (v := (i64 (self + 1))) (fun W hC => rn_add (m := self) (n := 1) rfl rfl (wr64 (by omega) (by omega))) ?_
              refine q_v (v := (i64 n)) (fun W hC => rn_mv rfl) ?_
              refine q_v (v := (i64 s2)) (fun W hC => rn_rem (m := self + 1) (n := n) rfl rfl (by omega) hs2) ?_
              refine q_v (v := (.slice B m.length c')) (fun W hC => rn_mv rfl) ?_
              refine q_callS (SBk w30.heap.size (mergeR (newL (n).toNat s2 0) m)) (fun _ _ _ _ _ h x => h.ext0 x) e21 (vs := [(i64 n), (i64 s2), (.slice B m.length c')]) rfl (fun W hC _ => (have hsz_ := hC.size; have hsy_ := hE.size; made_S (by omega) (made_c (l := m) (A := B) (gl := gm) (c := c') n s2 (hm.ext0 hC) (by omega) (by omega) (by omega) (by omega) (by first | omega | simp) (by first | omega | simp)))) (fun v50 lov50 hiv50 => ?_)
              refine ob_end (fun w51 x52 he53 hap54 => ?_)
              obtain ⟨p55, bb56, rfl, hB57, ⟨gp55, gbb56⟩, jp55, jbb56⟩ := he53 3
              have np55_hE : w0.heap.size ≤ p55 := Nat.le_trans hE.size gp55
              clear gp55
              have nbb56_hE : w0.heap.size ≤ bb56 := Nat.le_trans hE.size gbb56
              clear gbb56
              obtain ⟨p58, bb59, rfl, hB60, ⟨gp58, gbb59⟩, jp58, jbb59⟩ := he53 10
              have np58_hE : w0.heap.size ≤ p58 := Nat.le_trans hE.size gp58
              clear gp58
              have nbb59_hE : w0.heap.size ≤ bb59 := Nat.le_trans hE.size gbb59
              clear gbb59
              simp only [Apt, List.nil_append, List.cons_append, List.pairwise_cons, List.mem_cons, List.not_mem_nil, or_false, forall_eq_or_imp, forall_eq, List.Pairwise.nil, and_true, implies_true] at hap54
              replace hE := hE.step0 x52
              replace hl := hl.ext0 x52
              replace hm := hm.ext0 x52
              clear x52
              refine s1 (v := (ptr p55 0)) (rn_as rfl) ?_
              refine s1 (v := (ptr p58 0)) (rn_as rfl) ?_
              refine w_end ?_
              refine c_rs ?_
              obtain ⟨X, hX⟩ : ∃ X, X = (mergeR (newL (n).toNat self 0) l) := ⟨_, rfl⟩
              rw [← hX] at hB57
              have gX : Good X := by rw [hX]; exact mergeR_good (good_new (by omega) (by omega) (by omega) (by decide))
              have lX : X.length = n.toNat := by rw [hX, mergeR_len, newL_len]
              obtain ⟨Y, hY⟩ : ∃ Y, Y = (mergeR (newL (n).toNat s2 0) m) := ⟨_, rfl⟩
              rw [← hY] at hB60
              have gY : Good Y := by rw [hY]; exact mergeR_good (good_new (by omega) (by omega) (by omega) (by decide))
              have lY : Y.length = n.toNat := by rw [hY, mergeR_len, newL_len]
              refine s1 (v := (ptr p55 0)) (rn_mv rfl) ?_
              refine s1 (v := (ptr p58 0)) (rn_mv rfl) ?_
              refine s_bs et93 (vs := #[(0, (ptr p55 0)), (1, (ptr p58 0))]) (cs := [(ptr p55 0), (ptr p58 0)]) (by kernel_rfl) (by decide) (by kernel_rfl) (fun b61 w62 hb61 gb61 x63 => ?_)
              have nb61_hE : w0.heap.size ≤ b61 := Nat.le_trans hE.size gb61
              have ob61_hB57 : p55 < b61 ∧ bb56 < b61 := ⟨Nat.lt_of_lt_of_le hB57.ltp gb61, Nat.lt_of_lt_of_le hB57.ltb gb61⟩
              have ob61_hB60 : p58 < b61 ∧ bb59 < b61 := ⟨Nat.lt_of_lt_of_le hB60.ltp gb61, Nat.lt_of_lt_of_le hB60.ltb gb61⟩
              clear gb61
              replace hE := hE.step0 x63
              replace hl := hl.ext0 x63
              replace hm := hm.ext0 x63
              replace hB57 := hB57.ext0 x63
              replace hB60 := hB60.ext0 x63
              clear x63
              have hl64 : Ls Bok.cells 1 w62 b61 (some ⟨b61, 0, none⟩) [Bok.mk p55 bb56 X, Bok.mk p58 bb59 Y] := Ls.of_blk (rest := []) (fun _ => rfl) hb61
              refine s_call e48 (vs := [(.slice (some ⟨b61, 0, none⟩) 2 2)]) rfl (Level_c (qs := ([Bok.mk p55 bb56 X, Bok.mk p58 bb59 Y])) (c := 2) hl64 (by intro q_ hq_; simp only [List.mem_cons, List.not_mem_nil, or_false] at hq_; rcases hq_ with rfl | rfl; exact hB57; exact hB60) (by simp) (by simp) (by intro q_ hq_; simp only [List.mem_cons, List.not_mem_nil, or_false] at hq_; rcases hq_ with rfl | rfl; exact gX; exact gY) (by intro q_ hq_ r_ hr_; simp only [List.mem_cons, List.not_mem_nil, or_false] at hq_ hr_; rcases hq_ with rfl | rfl <;> rcases hr_ with rfl | rfl <;> simp only [lX, lY])) ?_
              rintro _ w69 ⟨A65, c66, g67, rfl, hl68, gg67, x70⟩
              have dg67 := gg67.imp_left (fun q => And.intro (Nat.le_trans hE.size q) (And.intro (Nat.lt_of_lt_of_le hb61.lt q) (And.intro (Nat.lt_of_lt_of_le hB57.ltp q) (And.intro (Nat.lt_of_lt_of_le hB57.ltb q) (And.intro (Nat.lt_of_lt_of_le hB60.ltp q) (Nat.lt_of_lt_of_le hB60.ltb q))))))
              clear gg67
              replace hE := hE.step0 x70
              replace hb61 := hb61.ext0 x70
              replace hl := hl.ext0 x70
              replace hm := hm.ext0 x70
              replace hB57 := hB57.ext0 x70
              replace hB60 := hB60.ext0 x70
              replace hl64 := hl64.ext0 x70
              clear x70
              refine s1 (v := (.tuple #[(.slice A65 ((levelL ([Bok.mk p55 bb56 X, Bok.mk p58 bb59 Y])).length) c66), (i64 0)])) (rn_mv rfl) ?_
              refine s1 (v := (.slice A65 ((levelL ([Bok.mk p55 bb56 X, Bok.mk p58 bb59 Y])).length) c66)) (rn_ex (vs := [(.slice A65 ((levelL ([Bok.mk p55 bb56 X, Bok.mk p58 bb59 Y])).length) c66), (i64 0)]) rfl rfl) ?_
              refine s1 (v := (i64 0)) (rn_ex (vs := [(.slice A65 ((levelL ([Bok.mk p55 bb56 X, Bok.mk p58 bb59 Y])).length) c66), (i64 0)]) rfl rfl) ?_
              refine s1 (v := (.slice A65 ((levelL ([Bok.mk p55 bb56 X, Bok.mk p58 bb59 Y])).length) c66)) (rn_as rfl) ?_
              refine s1 (v := (i64 0)) (rn_as rfl) ?_
              refine w_end ?_
              refine c_rs ?_
              refine s1 (v := (ptr p58 0)) (rn_mv rfl) ?_
              refine s1 (v := (ptr p55 0)) (rn_mv rfl) ?_
              refine s_call e52 (vs := [(ptr p58 0), (ptr p55 0)]) rfl (Above_c hB60 hB57 (by first | omega | (simp only [absR_len, mergeR_len, newL_len]; omega)) (by first | omega | (simp only [absR_len, mergeR_len, newL_len]; omega)) gY) ?_
              rintro _ w75 ⟨A71, c72, g73, rfl, hl74, gg73, x76⟩
              have dg73 := gg73.imp_left (fun q => And.intro (Nat.le_trans hE.size q) (And.intro (Nat.lt_of_lt_of_le hb61.lt q) (And.intro (Nat.lt_of_lt_of_le hB57.ltp q) (And.intro (Nat.lt_of_lt_of_le hB57.ltb q) (And.intro (Nat.lt_of_lt_of_le hB60.ltp q) (Nat.lt_of_lt_of_le hB60.ltb q))))))
              clear gg73
              replace hE := hE.step0 x76
              replace hb61 := hb61.ext0 x76
              replace hl := hl.ext0 x76
              replace hm := hm.ext0 x76
              replace hB57 := hB57.ext0 x76
              replace hB60 := hB60.ext0 x76
              replace hl64 := hl64.ext0 x76
              replace hl68 := hl68.ext0 x76
              clear x76
              refine s1 (v := (.tuple #[(.slice A71 ((aboveL Y X).length) c72), (i64 0)])) (rn_mv rfl) ?_
              refine s1 (v := (.slice A71 ((aboveL Y X).length) c72)) (rn_ex (vs := [(.slice A71 ((aboveL Y X).length) c72), (i64 0)]) rfl rfl) ?_
              refine s1 (v := (i64 0)) (rn_ex (vs := [(.slice A71 ((aboveL Y X).length) c72), (i64 0)]) rfl rfl) ?_
              refine s1 (v := (.slice A71 ((aboveL Y X).length) c72)) (rn_as rfl) ?_
              refine s1 (v := (i64 0)) (rn_as rfl) ?_
              refine w_end ?_
              refine c_rs ?_
              refine s1 (v := (ptr p55 0)) (rn_mv rfl) ?_
              refine s1 (v := (i64 self)) (rn_mv rfl) ?_
              refine s_callP e22 (v := (.tuple #[(N3.val (X[(self).toNat]?.getD default)), (i64 0)])) (vs := [(ptr p55 0), (i64 self)]) rfl (At_c hB57 self (by first | omega | (simp only [absR_len, mergeR_len, newL_len]; omega)) (by first | omega | (simp only [absR_len, mergeR_len, newL_len]; omega))) (fun w77 x78 => ?_)
              replace hE := hE.step0 x78
              replace hb61 := hb61.ext0 x78
              replace hl := hl.ext0 x78
              replace hm := hm.ext0 x78
              replace hB57 := hB57.ext0 x78
              replace hB60 := hB60.ext0 x78
              replace hl64 := hl64.ext0 x78
              replace hl68 := hl68.ext0 x78
              replace hl74 := hl74.ext0 x78
              clear x78
              refine s1 (v := (.tuple #[(N3.val (X[(self).toNat]?.getD default)), (i64 0)])) (rn_mv rfl) ?_
              refine s1 (v := (N3.val (X[(self).toNat]?.getD default))) (rn_ex (vs := [(N3.val (X[(self).toNat]?.getD default)), (i64 0)]) rfl rfl) ?_
              refine s1 (v := (i64 0)) (rn_ex (vs := [(N3.val (X[(self).toNat]?.getD default)), (i64 0)]) rfl rfl) ?_
              refine s_alloc (cs := [(i64 0), (i64 0), (i64 0)]) z28 rfl (fun b79 w80 hb79 gb79 x81 => ?_)
              have nb79_hE : w0.heap.size ≤ b79 := Nat.le_trans hE.size gb79
              have ob79 : b61 < b79 := Nat.lt_of_lt_of_le hb61.lt gb79
              have ob79_hB57 : p55 < b79 ∧ bb56 < b79 := ⟨Nat.lt_of_lt_of_le hB57.ltp gb79, Nat.lt_of_lt_of_le hB57.ltb gb79⟩
              have ob79_hB60 : p58 < b79 ∧ bb59 < b79 := ⟨Nat.lt_of_lt_of_le hB60.ltp gb79, Nat.lt_of_lt_of_le hB60.ltb gb79⟩
              replace dg67 := orAnd dg67 ((hl68.lt (by simp)).imp_left (fun q => Nat.lt_of_lt_of_le q gb79))
              replace dg73 := orAnd dg73 ((hl74.lt (by simp)).imp_left (fun q => Nat.lt_of_lt_of_le q gb79))
              clear gb79
              replace hE := hE.step0 x81
              replace hb61 := hb61.ext0 x81
              replace hl := hl.ext0 x81
              replace hm := hm.ext0 x81
              replace hB57 := hB57.ext0 x81
              replace hB60 := hB60.ext0 x81
              replace hl64 := hl64.ext0 x81
              replace hl68 := hl68.ext0 x81
              replace hl74 := hl74.ext0 x81
              clear x81
              refine s_st (v := (N3.val (X[(self).toNat]?.getD default))) (vs := (N3.cells (X[(self).toNat]?.getD default))) (cs' := (N3.cells (X[(self).toNat]?.getD default))) g28.2 rfl rfl rfl rfl hb79 (by simp) rfl rfl (fun w82 h_ x83 => ?_)
              replace hE := hE.step1 x83 (by first | (left; simp; done) | (right; omega))
              replace hb61 := hb61.ext1 x83 (by omega)
              replace hl := hl.ext1 x83 (by omega)
              replace hm := hm.ext1 x83 (by omega)
              replace hB57 := hB57.ext1 x83 (by omega)
              replace hB60 := hB60.ext1 x83 (by omega)
              replace hl64 := hl64.ext1 x83 (by omega)
              replace hl68 := hl68.ext1 x83 (by omega)
              replace hl74 := hl74.ext1 x83 (by omega)
              clear x83
              replace hb79 := h_; clear h_
              refine s1 (v := (i64 0)) (rn_as rfl) ?_
              refine w_end ?_
              refine fr_eq (l' := (lk [(i64 n), (i64 self), (.slice A l.length c), (.slice B m.length c'), undef, undef, undef, undef, (.bool false), (ptr p55 0), (ptr p58 0), (.slice A65 ((levelL ([Bok.mk p55 bb56 X, Bok.mk p58 bb59 Y])).length) c66), (i64 0), (.slice A71 ((aboveL Y X).length) c72), (i64 0), (ptr b79 0), (i64 0), undef, undef, undef, undef, undef, undef, undef, (i64 n), (.bool (decide (n < 1))), (.bool (decide (n < 1))), (i64 n), (.bool (decide (100 < n))), (.bool (decide (100 < n))), (.bool (decide (100 < n))), (i64 self), (.bool (decide (self < 0))), (.bool (decide (self < 0))), (.bool (decide (self < 0))), (i64 self), (i64 n), (.bool (decide (n ≤ self))), (.bool (decide (n ≤ self))), (.bool (decide (n ≤ self))), (.slice A l.length c), (.bool (decide ((l.length : Int) ≤ 300))), (.bool (!(decide ((l.length : Int) ≤ 300)))), (.bool (!(decide ((l.length : Int) ≤ 300)))), (.bool (!(decide ((l.length : Int) ≤ 300)))), (.slice B m.length c'), (.bool (decide ((m.length : Int) ≤ 300))), (.bool (!(decide ((m.length : Int) ≤ 300)))), (.bool (!(decide ((m.length : Int) ≤ 300)))), undef, (i64 n), (i64 self), (.slice A l.length c), (ptr p55 0), (i64 n), (i64 self), (i64 (self + 1)), (i64 n), (i64 s2), (.slice B m.length c'), (ptr p58 0), (.tuple #[(.slice A65 ((levelL ([Bok.mk p55 bb56 X, Bok.mk p58 bb59 Y])).length) c66), (i64 0)]), (ptr p55 0), (ptr p58 0), (.slice (some ⟨b61, 0, none⟩) 2 2), (.tuple #[(.slice A65 ((levelL ([Bok.mk p55 bb56 X, Bok.mk p58 bb59 Y])).length) c66), (i64 0)]), (.slice A65 ((levelL ([Bok.mk p55 bb56 X, Bok.mk p58 bb59 Y])).length) c66), (i64 0), (.tuple #[(.slice A71 ((aboveL Y X).length) c72), (i64 0)]), (ptr p58 0), (ptr p55 0), (.tuple #[(.slice A71 ((aboveL Y X).length) c72), (i64 0)]), (.slice A71 ((aboveL Y X).length) c72), (i64 0), (.tuple #[(N3.val (X[(self).toNat]?.getD default)), (i64 0)]), (ptr p55 0), (i64 self), (.tuple #[(N3.val (X[(self).toNat]?.getD default)), (i64 0)]), (N3.val (X[(self).toNat]?.getD default)), (i64 0), undef, undef, undef, undef, undef, undef, undef, undef, undef, undef, undef, undef, undef, undef, undef, undef, undef, undef, undef, undef, undef, undef, undef, undef, undef, undef, undef, undef, undef, undef, undef, undef, undef, undef, undef, undef, undef, undef, undef, undef, undef, undef, undef, undef, undef, undef, undef, undef, undef, undef, undef, undef, undef, undef, undef, undef, undef, undef, undef, undef, undef, undef, undef, undef, undef, undef, undef, undef, undef, undef, undef, undef, undef, undef, undef, undef, undef, undef, undef, undef, undef, undef, undef, undef, undef, undef, undef, undef, undef, undef, undef, undef, undef, undef])) (by kernel_rfl) ?_
              refine c_rs ?_
              have hav := allV_above (X := X) gY lY (by omega)
              have hae : absE X (aboveL Y X) = 0 := by unfold absE; rw [lX, hav]; rfl
              have gA : Good (absR self X (aboveL Y X)) := absR_good gX
              have lA : (absR self X (aboveL Y X)).length = n.toNat := by rw [absR_len, lX]
              have htl : (levelL [Bok.mk p55 bb56 X, Bok.mk p58 bb59 Y]).length = n.toNat := by show (X.map _).length = _; rw [List.length_map, lX]
              have hr := rest_law (self := self) gX gY lX lY (by omega) (by omega)
              have hau : (aboveL Y X).length ≤ Y.length := List.length_filter_le _ _
              refine s1 (v := (ptr p55 0)) (rn_mv rfl) ?_
              refine s1 (v := (i64 self)) (rn_mv rfl) ?_
              refine s1 (v := (.slice A71 ((aboveL Y X).length) c72)) (rn_mv rfl) ?_
              refine s_call e23 (vs := [(ptr p55 0), (i64 self), (.slice A71 ((aboveL Y X).length) c72)]) rfl (Absorb_c (l := (aboveL Y X)) (gl := g73) (c := c72) hB57 self hl74 (by first | omega | (simp only [absR_len, mergeR_len, newL_len]; omega)) (by first | omega | simp) (by first | omega | simp)) ?_
              rintro _ w84 ⟨rfl, hB85, x86⟩
              replace hE := hE.step1 x86 (by first | (left; simp; done) | (right; omega))
              replace hb61 := hb61.ext1 x86 (by omega)
              replace hb79 := hb79.ext1 x86 (by omega)
              replace hl := hl.ext1 x86 (by omega)
              replace hm := hm.ext1 x86 (by omega)
              replace hB60 := hB60.ext1 x86 (by omega)
              replace hl64 := hl64.ext1 x86 (by omega)
              replace hl68 := hl68.ext1 x86 (by omega)
              replace hl74 := hl74.ext1 x86 (by omega)
              clear x86
              replace hB57 := hB85; clear hB85
              generalize absS self X (aboveL Y X) = sA
              refine s1 (v := (.tuple #[(S4.val sA), (i64 (absE X (aboveL Y X)))])) (rn_mv rfl) ?_
              refine s1 (v := (S4.val sA)) (rn_ex (vs := [(S4.val sA), (i64 (absE X (aboveL Y X)))]) rfl rfl) ?_
              refine s1 (v := (i64 (absE X (aboveL Y X)))) (rn_ex (vs := [(S4.val sA), (i64 (absE X (aboveL Y X)))]) rfl rfl) ?_
              refine s_alloc (cs := [(u32 0), (u32 0), (u32 0), (u32 0)]) z34 rfl (fun b87 w88 hb87 gb87 x89 => ?_)
              have nb87_hE : w0.heap.size ≤ b87 := Nat.le_trans hE.size gb87
              have ob87 : b79 < b87 := Nat.lt_of_lt_of_le hb79.lt gb87
              have ob87_hB57 : p55 < b87 ∧ bb56 < b87 := ⟨Nat.lt_of_lt_of_le hB57.ltp gb87, Nat.lt_of_lt_of_le hB57.ltb gb87⟩
              have ob87_hB60 : p58 < b87 ∧ bb59 < b87 := ⟨Nat.lt_of_lt_of_le hB60.ltp gb87, Nat.lt_of_lt_of_le hB60.ltb gb87⟩
              replace dg67 := orAnd dg67 ((hl68.lt (by simp)).imp_left (fun q => Nat.lt_of_lt_of_le q gb87))
              replace dg73 := orAnd dg73 ((hl74.lt (by simp)).imp_left (fun q => Nat.lt_of_lt_of_le q gb87))
              clear gb87
              replace hE := hE.step0 x89
              replace hb61 := hb61.ext0 x89
              replace hb79 := hb79.ext0 x89
              replace hl := hl.ext0 x89
              replace hm := hm.ext0 x89
              replace hB57 := hB57.ext0 x89
              replace hB60 := hB60.ext0 x89
              replace hl64 := hl64.ext0 x89
              replace hl68 := hl68.ext0 x89
              replace hl74 := hl74.ext0 x89
              clear x89
              refine s_st (v := (S4.val sA)) (vs := (S4.cells sA)) (cs' := (S4.cells sA)) g34.2 rfl rfl rfl rfl hb87 (by simp) rfl rfl (fun w90 h_ x91 => ?_)
              replace hE := hE.step1 x91 (by first | (left; simp; done) | (right; omega))
              replace hb61 := hb61.ext1 x91 (by omega)
              replace hb79 := hb79.ext1 x91 (by omega)
              replace hl := hl.ext1 x91 (by omega)
              replace hm := hm.ext1 x91 (by omega)
              replace hB57 := hB57.ext1 x91 (by omega)
              replace hB60 := hB60.ext1 x91 (by omega)
              replace hl64 := hl64.ext1 x91 (by omega)
              replace hl68 := hl68.ext1 x91 (by omega)
              replace hl74 := hl74.ext1 x91 (by omega)
              clear x91
              replace hb87 := h_; clear h_
              refine s1 (v := (i64 (absE X (aboveL Y X)))) (rn_as rfl) ?_
              refine w_end ?_
              refine c_rs ?_
              refine s1 (v := (ptr p58 0)) (rn_mv rfl) ?_
              refine s1 (v := (ptr p55 0)) (rn_mv rfl) ?_
              refine s_call e52 (vs := [(ptr p58 0), (ptr p55 0)]) rfl (Above_c hB60 hB57 (by first | omega | (simp only [absR_len, mergeR_len, newL_len]; omega)) (by first | omega | (simp only [absR_len, mergeR_len, newL_len]; omega)) gY) ?_
              rintro _ w96 ⟨A92, c93, g94, rfl, hl95, gg94, x97⟩
              have dg94 := gg94.imp_left (fun q => And.intro (Nat.le_trans hE.size q) (And.intro (Nat.lt_of_lt_of_le hb61.lt q) (And.intro (Nat.lt_of_lt_of_le hb79.lt q) (And.intro (Nat.lt_of_lt_of_le hb87.lt q) (And.intro (Nat.lt_of_lt_of_le hB57.ltp q) (And.intro (Nat.lt_of_lt_of_le hB57.ltb q) (And.intro (Nat.lt_of_lt_of_le hB60.ltp q) (Nat.lt_of_lt_of_le hB60.ltb q))))))))
              clear gg94
              replace hE := hE.step0 x97
              replace hb61 := hb61.ext0 x97
              replace hb79 := hb79.ext0 x97
              replace hb87 := hb87.ext0 x97
              replace hl := hl.ext0 x97
              replace hm := hm.ext0 x97
              replace hB57 := hB57.ext0 x97
              replace hB60 := hB60.ext0 x97
              replace hl64 := hl64.ext0 x97
              replace hl68 := hl68.ext0 x97
              replace hl74 := hl74.ext0 x97
              clear x97
              refine s1 (v := (.tuple #[(.slice A92 ((aboveL Y (absR self X (aboveL Y X))).length) c93), (i64 0)])) (rn_mv rfl) ?_
              refine s1 (v := (.slice A92 ((aboveL Y (absR self X (aboveL Y X))).length) c93)) (rn_ex (vs := [(.slice A92 ((aboveL Y (absR self X (aboveL Y X))).length) c93), (i64 0)]) rfl rfl) ?_
              refine s1 (v := (i64 0)) (rn_ex (vs := [(.slice A92 ((aboveL Y (absR self X (aboveL Y X))).length) c93), (i64 0)]) rfl rfl) ?_
              refine s1 (v := (.slice A92 ((aboveL Y (absR self X (aboveL Y X))).length) c93)) (rn_as rfl) ?_
              refine s1 (v := (i64 0)) (rn_as rfl) ?_
              refine w_end ?_
              refine c_seq ?_
              refine c_rs ?_
              refine s1 (v := (i64 0)) (rn_mv rfl) ?_
              refine s1 (v := (.bool false)) (rn_neq (m := 0) (n := 0) rfl rfl) ?_
              refine s1 (v := (.bool false)) (rn_mv rfl) ?_
              refine g_yes rfl rfl rfl rfl ?_
              refine s1 (v := (i64 0)) (rn_mv rfl) ?_
              refine g_yes rfl rfl rfl rfl ?_
              refine s1 (v := (.bool false)) (rn_neq (m := 0) (n := 0) rfl rfl) ?_
              refine s1 (v := (.bool false)) (rn_pF (b := false) rfl rfl rfl) ?_
              refine s1 (v := (.bool false)) (rn_mv rfl) ?_
              refine g_yes rfl rfl rfl rfl ?_
              refine s1 (v := (i64 (absE X (aboveL Y X)))) (rn_mv rfl) ?_
              refine g_yes rfl rfl rfl rfl ?_
              refine s1 (v := (.bool (decide (absE X (aboveL Y X) ≠ 0)))) (rn_neq (m := absE X (aboveL Y X)) (n := 0) rfl rfl) ?_
              refine s1 (v := (.bool (decide (absE X (aboveL Y X) ≠ 0)))) (rn_pF (b := false) rfl rfl rfl) ?_
              refine s1 (v := (.bool (decide (absE X (aboveL Y X) ≠ 0)))) (rn_mv rfl) ?_
              refine g_yes rfl rfl rfl (decide_eq_false (by rw [hae]; simp)) ?_
              refine s1 (v := (i64 0)) (rn_mv rfl) ?_
              refine g_yes rfl rfl rfl (decide_eq_false (by rw [hae]; simp)) ?_
              refine s1 (v := (.bool false)) (rn_neq (m := 0) (n := 0) rfl rfl) ?_
              refine s1 (v := (.bool false)) (rn_pF (b := (decide (absE X (aboveL Y X) ≠ 0))) rfl (decide_eq_false (by rw [hae]; simp)) rfl) ?_
              refine s1 (v := (.bool false)) (rn_mv rfl) ?_
              refine g_yes rfl rfl rfl rfl ?_
              refine s1 (v := (.slice A65 ((levelL ([Bok.mk p55 bb56 X, Bok.mk p58 bb59 Y])).length) c66)) (rn_mv rfl) ?_
              refine g_yes rfl rfl rfl rfl ?_
              refine s1 (v := (i64 ((levelL ([Bok.mk p55 bb56 X, Bok.mk p58 bb59 Y])).length : Int))) (rn_len is22 rfl) ?_
              refine g_yes rfl rfl rfl rfl ?_
              refine s1 (v := (i64 n)) (rn_mv rfl) ?_
              refine g_yes rfl rfl rfl rfl ?_
              refine s1 (v := (.bool (decide (((levelL ([Bok.mk p55 bb56 X, Bok.mk p58 bb59 Y])).length : Int) ≠ n)))) (rn_neq (m := ((levelL ([Bok.mk p55 bb56 X, Bok.mk p58 bb59 Y])).length : Int)) (n := n) rfl rfl) ?_
              refine s1 (v := (.bool (decide (((levelL ([Bok.mk p55 bb56 X, Bok.mk p58 bb59 Y])).length : Int) ≠ n)))) (rn_pF (b := false) rfl rfl rfl) ?_
              refine w_end ?_
              refine c_F (b := (decide (((levelL ([Bok.mk p55 bb56 X, Bok.mk p58 bb59 Y])).length : Int) ≠ n))) rfl (decide_eq_false (by rw [htl]; omega)) ?_
              refine c_skip' ?_
              refine t_norm ?_
              refine c_seq ?_
              refine c_rs ?_
              refine s1 (v := (i64 0)) (rn_as rfl) ?_
              refine w_end ?_
              refine c_block ?_
              refine c_loop (fun d a w => ∃ (k98 : Nat) (z_k98 : Nat → Value) , a = Fr 174 (lk [(i64 n), (i64 self), (.slice A l.length c), (.slice B m.length c'), undef, undef, undef, undef, (z_k98 8), (ptr p55 0), (ptr p58 0), (.slice A65 ((levelL ([Bok.mk p55 bb56 X, Bok.mk p58 bb59 Y])).length) c66), (i64 0), (.slice A71 ((aboveL Y X).length) c72), (i64 0), (ptr b79 0), (i64 0), (ptr b87 0), (i64 (absE X (aboveL Y X))), (.slice A92 ((aboveL Y (absR self X (aboveL Y X))).length) c93), (i64 0), (i64 (k98 : Int)), (z_k98 22), (z_k98 23), (i64 n), (.bool (decide (n < 1))), (.bool (decide (n < 1))), (i64 n), (.bool (decide (100 < n))), (.bool (decide (100 < n))), (.bool (decide (100 < n))), (i64 self), (.bool (decide (self < 0))), (.bool (decide (self < 0))), (.bool (decide (self < 0))), (i64 self), (i64 n), (.bool (decide (n ≤ self))), (.bool (decide (n ≤ self))), (.bool (decide (n ≤ self))), (.slice A l.length c), (.bool (decide ((l.length : Int) ≤ 300))), (.bool (!(decide ((l.length : Int) ≤ 300)))), (.bool (!(decide ((l.length : Int) ≤ 300)))), (.bool (!(decide ((l.length : Int) ≤ 300)))), (.slice B m.length c'), (.bool (decide ((m.length : Int) ≤ 300))), (.bool (!(decide ((m.length : Int) ≤ 300)))), (.bool (!(decide ((m.length : Int) ≤ 300)))), undef, (i64 n), (i64 self), (.slice A l.length c), (ptr p55 0), (i64 n), (i64 self), (i64 (self + 1)), (i64 n), (i64 s2), (.slice B m.length c'), (ptr p58 0), (.tuple #[(.slice A65 ((levelL ([Bok.mk p55 bb56 X, Bok.mk p58 bb59 Y])).length) c66), (i64 0)]), (ptr p55 0), (ptr p58 0), (.slice (some ⟨b61, 0, none⟩) 2 2), (.tuple #[(.slice A65 ((levelL ([Bok.mk p55 bb56 X, Bok.mk p58 bb59 Y])).length) c66), (i64 0)]), (.slice A65 ((levelL ([Bok.mk p55 bb56 X, Bok.mk p58 bb59 Y])).length) c66), (i64 0), (.tuple #[(.slice A71 ((aboveL Y X).length) c72), (i64 0)]), (ptr p58 0), (ptr p55 0), (.tuple #[(.slice A71 ((aboveL Y X).length) c72), (i64 0)]), (.slice A71 ((aboveL Y X).length) c72), (i64 0), (.tuple #[(N3.val (X[(self).toNat]?.getD default)), (i64 0)]), (ptr p55 0), (i64 self), (.tuple #[(N3.val (X[(self).toNat]?.getD default)), (i64 0)]), (N3.val (X[(self).toNat]?.getD default)), (i64 0), (.tuple #[(S4.val sA), (i64 (absE X (aboveL Y X)))]), (ptr p55 0), (i64 self), (.slice A71 ((aboveL Y X).length) c72), (.tuple #[(S4.val sA), (i64 (absE X (aboveL Y X)))]), (S4.val sA), (i64 (absE X (aboveL Y X))), (.tuple #[(.slice A92 ((aboveL Y (absR self X (aboveL Y X))).length) c93), (i64 0)]), (ptr p58 0), (ptr p55 0), (.tuple #[(.slice A92 ((aboveL Y (absR self X (aboveL Y X))).length) c93), (i64 0)]), (.slice A92 ((aboveL Y (absR self X (aboveL Y X))).length) c93), (i64 0), (i64 0), (.bool false), (.bool false), (i64 0), (.bool false), (.bool false), (.bool false), (i64 (absE X (aboveL Y X))), (.bool (decide (absE X (aboveL Y X) ≠ 0))), (.bool (decide (absE X (aboveL Y X) ≠ 0))), (.bool (decide (absE X (aboveL Y X) ≠ 0))), (i64 0), (.bool false), (.bool false), (.bool false), (.slice A65 ((levelL ([Bok.mk p55 bb56 X, Bok.mk p58 bb59 Y])).length) c66), (i64 ((levelL ([Bok.mk p55 bb56 X, Bok.mk p58 bb59 Y])).length : Int)), (i64 n), (.bool (decide (((levelL ([Bok.mk p55 bb56 X, Bok.mk p58 bb59 Y])).length : Int) ≠ n))), (.bool (decide (((levelL ([Bok.mk p55 bb56 X, Bok.mk p58 bb59 Y])).length : Int) ≠ n))), (z_k98 113), (z_k98 114), (z_k98 115), (z_k98 116), (z_k98 117), (z_k98 118), (z_k98 119), (z_k98 120), (z_k98 121), (z_k98 122), (z_k98 123), (z_k98 124), (z_k98 125), (z_k98 126), (z_k98 127), (z_k98 128), (z_k98 129), (z_k98 130), (z_k98 131), (z_k98 132), (z_k98 133), (z_k98 134), (z_k98 135), (z_k98 136), (z_k98 137), (z_k98 138), (z_k98 139), (z_k98 140), (z_k98 141), (z_k98 142), (z_k98 143), (z_k98 144), (z_k98 145), (z_k98 146), (z_k98 147), undef, undef, undef, undef, undef, undef, undef, undef, undef, undef, undef, undef, undef, undef, undef, undef, undef, undef, undef, undef, undef, undef, undef, undef, undef, undef]) [] ∧ d = n.toNat - k98 ∧ k98 ≤ n.toNat ∧ Ext [] w0 w ∧ Blk w b61 25 [(ptr p55 0), (ptr p58 0)] ∧ Blk w b79 28 (N3.cells (X[(self).toNat]?.getD default)) ∧ Blk w b87 34 (S4.cells sA) ∧ Ls N3.cells 3 w gl A l ∧ Ls N3.cells 3 w gm B m ∧ Bk w p55 bb56 (absR self X (aboveL Y X)) ∧ Bk w p58 bb59 Y ∧ Ls Bok.cells 1 w b61 (some ⟨b61, 0, none⟩) ([Bok.mk p55 bb56 X, Bok.mk p58 bb59 Y]) ∧ Ls N3.cells 3 w g67 A65 (levelL ([Bok.mk p55 bb56 X, Bok.mk p58 bb59 Y])) ∧ Ls N3.cells 3 w g73 A71 (aboveL Y X) ∧ Ls N3.cells 3 w g94 A92 (aboveL Y (absR self X (aboveL Y X)))) (n.toNat - 0) ?_ ?_
              · exact ⟨0, (lk [(i64 n), (i64 self), (.slice A l.length c), (.slice B m.length c'), undef, undef, undef, undef, (.bool false), (ptr p55 0), (ptr p58 0), (.slice A65 ((levelL ([Bok.mk p55 bb56 X, Bok.mk p58 bb59 Y])).length) c66), (i64 0), (.slice A71 ((aboveL Y X).length) c72), (i64 0), (ptr b79 0), (i64 0), (ptr b87 0), (i64 (absE X (aboveL Y X))), (.slice A92 ((aboveL Y (absR self X (aboveL Y X))).length) c93), (i64 0), (i64 0), undef, undef, (i64 n), (.bool (decide (n < 1))), (.bool (decide (n < 1))), (i64 n), (.bool (decide (100 < n))), (.bool (decide (100 < n))), (.bool (decide (100 < n))), (i64 self), (.bool (decide (self < 0))), (.bool (decide (self < 0))), (.bool (decide (self < 0))), (i64 self), (i64 n), (.bool (decide (n ≤ self))), (.bool (decide (n ≤ self))), (.bool (decide (n ≤ self))), (.slice A l.length c), (.bool (decide ((l.length : Int) ≤ 300))), (.bool (!(decide ((l.length : Int) ≤ 300)))), (.bool (!(decide ((l.length : Int) ≤ 300)))), (.bool (!(decide ((l.length : Int) ≤ 300)))), (.slice B m.length c'), (.bool (decide ((m.length : Int) ≤ 300))), (.bool (!(decide ((m.length : Int) ≤ 300)))), (.bool (!(decide ((m.length : Int) ≤ 300)))), undef, (i64 n), (i64 self), (.slice A l.length c), (ptr p55 0), (i64 n), (i64 self), (i64 (self + 1)), (i64 n), (i64 s2), (.slice B m.length c'), (ptr p58 0), (.tuple #[(.slice A65 ((levelL ([Bok.mk p55 bb56 X, Bok.mk p58 bb59 Y])).length) c66), (i64 0)]), (ptr p55 0), (ptr p58 0), (.slice (some ⟨b61, 0, none⟩) 2 2), (.tuple #[(.slice A65 ((levelL ([Bok.mk p55 bb56 X, Bok.mk p58 bb59 Y])).length) c66), (i64 0)]), (.slice A65 ((levelL ([Bok.mk p55 bb56 X, Bok.mk p58 bb59 Y])).length) c66), (i64 0), (.tuple #[(.slice A71 ((aboveL Y X).length) c72), (i64 0)]), (ptr p58 0), (ptr p55 0), (.tuple #[(.slice A71 ((aboveL Y X).length) c72), (i64 0)]), (.slice A71 ((aboveL Y X).length) c72), (i64 0), (.tuple #[(N3.val (X[(self).toNat]?.getD default)), (i64 0)]), (ptr p55 0), (i64 self), (.tuple #[(N3.val (X[(self).toNat]?.getD default)), (i64 0)]), (N3.val (X[(self).toNat]?.getD default)), (i64 0), (.tuple #[(S4.val sA), (i64 (absE X (aboveL Y X)))]), (ptr p55 0), (i64 self), (.slice A71 ((aboveL Y X).length) c72), (.tuple #[(S4.val sA), (i64 (absE X (aboveL Y X)))]), (S4.val sA), (i64 (absE X (aboveL Y X))), (.tuple #[(.slice A92 ((aboveL Y (absR self X (aboveL Y X))).length) c93), (i64 0)]), (ptr p58 0), (ptr p55 0), (.tuple #[(.slice A92 ((aboveL Y (absR self X (aboveL Y X))).length) c93), (i64 0)]), (.slice A92 ((aboveL Y (absR self X (aboveL Y X))).length) c93), (i64 0), (i64 0), (.bool false), (.bool false), (i64 0), (.bool false), (.bool false), (.bool false), (i64 (absE X (aboveL Y X))), (.bool (decide (absE X (aboveL Y X) ≠ 0))), (.bool (decide (absE X (aboveL Y X) ≠ 0))), (.bool (decide (absE X (aboveL Y X) ≠ 0))), (i64 0), (.bool false), (.bool false), (.bool false), (.slice A65 ((levelL ([Bok.mk p55 bb56 X, Bok.mk p58 bb59 Y])).length) c66), (i64 ((levelL ([Bok.mk p55 bb56 X, Bok.mk p58 bb59 Y])).length : Int)), (i64 n), (.bool (decide (((levelL ([Bok.mk p55 bb56 X, Bok.mk p58 bb59 Y])).length : Int) ≠ n))), (.bool (decide (((levelL ([Bok.mk p55 bb56 X, Bok.mk p58 bb59 Y])).length : Int) ≠ n))), undef, undef, undef, undef, undef, undef, undef, undef, undef, undef, undef, undef, undef, undef, undef, undef, undef, undef, undef, undef, undef, undef, undef, undef, undef, undef, undef, undef, undef, undef, undef, undef, undef, undef, undef, undef, undef, undef, undef, undef, undef, undef, undef, undef, undef, undef, undef, undef, undef, undef, undef, undef, undef, undef, undef, undef, undef, undef, undef, undef, undef]), Fr_congr (by kernel_rfl), rfl, Nat.zero_le _, hE, hb61, hb79, hb87, hl, hm, hB57, hB60, hl64, hl68, hl74, hl95⟩
              clear hE
              clear hb61
              clear hb79
              clear hb87
              clear hl
              clear hm
              clear hB57
              clear hB60
              clear hl64
              clear hl68
              clear hl74
              clear hl95
              rintro d a w99 ⟨k98, z_k98, rfl, rfl, hlek98, hE, hb61, hb79, hb87, hl, hm, hB57, hB60, hl64, hl68, hl74, hl95⟩
              refine c_seq ?_
              refine c_rs ?_
              refine s1 (v := (i64 (k98 : Int))) (rn_mv rfl) ?_
              refine s1 (v := (i64 n)) (rn_mv rfl) ?_
              refine s1 (v := (.bool (decide ((k98 : Int) < n)))) (rn_lss (m := (k98 : Int)) (n := n) rfl rfl) ?_
              refine w_end ?_
              refine c_if (b := (decide ((k98 : Int) < n))) rfl (fun h100 => ?_) (fun h100 => ?_)
              ·
                have p101 := of_decide_eq_true h100
                refine c_skip' ?_
                refine t_norm ?_
                refine c_seq ?_
                refine c_block ?_
                refine c_rs ?_
                refine s1 (v := (ptr p55 0)) (rn_mv rfl) ?_
                refine s1 (v := (i64 (k98 : Int))) (rn_mv rfl) ?_
                refine s_callP e22 (v := (.tuple #[(N3.val ((absR self X (aboveL Y X))[((k98 : Int)).toNat]?.getD default)), (i64 0)])) (vs := [(ptr p55 0), (i64 (k98 : Int))]) rfl (At_c hB57 (k98 : Int) (by first | omega | (simp only [absR_len, mergeR_len, newL_len]; omega)) (by first | omega | (simp only [absR_len, mergeR_len, newL_len]; omega))) (fun w102 x103 => ?_)
                replace hE := hE.step0 x103
                replace hb61 := hb61.ext0 x103
                replace hb79 := hb79.ext0 x103
                replace hb87 := hb87.ext0 x103
                replace hl := hl.ext0 x103
                replace hm := hm.ext0 x103
                replace hB57 := hB57.ext0 x103
                replace hB60 := hB60.ext0 x103
                replace hl64 := hl64.ext0 x103
                replace hl68 := hl68.ext0 x103
                replace hl74 := hl74.ext0 x103
                replace hl95 := hl95.ext0 x103
                clear x103
                refine s1 (v := (.tuple #[(N3.val ((absR self X (aboveL Y X))[((k98 : Int)).toNat]?.getD default)), (i64 0)])) (rn_mv rfl) ?_
                refine s1 (v := (N3.val ((absR self X (aboveL Y X))[((k98 : Int)).toNat]?.getD default))) (rn_ex (vs := [(N3.val ((absR self X (aboveL Y X))[((k98 : Int)).toNat]?.getD default)), (i64 0)]) rfl rfl) ?_
                refine s1 (v := (i64 0)) (rn_ex (vs := [(N3.val ((absR self X (aboveL Y X))[((k98 : Int)).toNat]?.getD default)), (i64 0)]) rfl rfl) ?_
                refine s_alloc (cs := [(i64 0), (i64 0), (i64 0)]) z28 rfl (fun b104 w105 hb104 gb104 x106 => ?_)
                have nb104_hE : w0.heap.size ≤ b104 := Nat.le_trans hE.size gb104
                have ob104 : b87 < b104 := Nat.lt_of_lt_of_le hb87.lt gb104
                have ob104_hB57 : p55 < b104 ∧ bb56 < b104 := ⟨Nat.lt_of_lt_of_le hB57.ltp gb104, Nat.lt_of_lt_of_le hB57.ltb gb104⟩
                have ob104_hB60 : p58 < b104 ∧ bb59 < b104 := ⟨Nat.lt_of_lt_of_le hB60.ltp gb104, Nat.lt_of_lt_of_le hB60.ltb gb104⟩
                replace dg67 := orAnd dg67 ((hl68.lt (by simp)).imp_left (fun q => Nat.lt_of_lt_of_le q gb104))
                replace dg73 := orAnd dg73 ((hl74.lt (by simp)).imp_left (fun q => Nat.lt_of_lt_of_le q gb104))
                replace dg94 := orAnd dg94 ((hl95.lt (by simp)).imp_left (fun q => Nat.lt_of_lt_of_le q gb104))
                clear gb104
                replace hE := hE.step0 x106
                replace hb61 := hb61.ext0 x106
                replace hb79 := hb79.ext0 x106
                replace hb87 := hb87.ext0 x106
                replace hl := hl.ext0 x106
                replace hm := hm.ext0 x106
                replace hB57 := hB57.ext0 x106
                replace hB60 := hB60.ext0 x106
                replace hl64 := hl64.ext0 x106
                replace hl68 := hl68.ext0 x106
                replace hl74 := hl74.ext0 x106
                replace hl95 := hl95.ext0 x106
                clear x106
                refine s_st (v := (N3.val ((absR self X (aboveL Y X))[((k98 : Int)).toNat]?.getD default))) (vs := (N3.cells ((absR self X (aboveL Y X))[((k98 : Int)).toNat]?.getD default))) (cs' := (N3.cells ((absR self X (aboveL Y X))[((k98 : Int)).toNat]?.getD default))) g28.2 rfl rfl rfl rfl hb104 (by simp) rfl rfl (fun w107 h_ x108 => ?_)
                replace hE := hE.step1 x108 (by first | (left; simp; done) | (right; omega))
                replace hb61 := hb61.ext1 x108 (by omega)
                replace hb79 := hb79.ext1 x108 (by omega)
                replace hb87 := hb87.ext1 x108 (by omega)
                replace hl := hl.ext1 x108 (by omega)
                replace hm := hm.ext1 x108 (by omega)
                replace hB57 := hB57.ext1 x108 (by omega)
                replace hB60 := hB60.ext1 x108 (by omega)
                replace hl64 := hl64.ext1 x108 (by omega)
                replace hl68 := hl68.ext1 x108 (by omega)
                replace hl74 := hl74.ext1 x108 (by omega)
                replace hl95 := hl95.ext1 x108 (by omega)
                clear x108
                replace hb104 := h_; clear h_
                refine s1 (v := (i64 0)) (rn_as rfl) ?_
                refine w_end ?_
                refine c_seq ?_
                obtain ⟨x109, o110, hx111, hA112, el113⟩ := hl68.el (k := k98) (by omega)
                rcases Bool.eq_false_or_eq_true (decide (((absR self X (aboveL Y X))[((k98 : Int)).toNat]?.getD default) = x109)) with h114 | h114
                ·
                  have p115 := of_decide_eq_true h114
                  refine c_seq ?_
                  refine c_dr (n := 24) [.c (N3.val ((absR self X (aboveL Y X))[((k98 : Int)).toNat]?.getD default)), .c (.slice A65 ((levelL ([Bok.mk p55 bb56 X, Bok.mk p58 bb59 Y])).length) c66), .c (i64 (k98 : Int)), .c (ptr g67 (o110 + k98 * 3)), .c (N3.val x109), .c (.bool (decide (((absR self X (aboveL Y X))[((k98 : Int)).toNat]?.getD default) = x109))), .c (.bool (decide (((absR self X (aboveL Y X))[((k98 : Int)).toNat]?.getD default) = x109))), .n, .n, .n, .n, .n, .n, .n, .n, .n, .n, .n, .n, .n, .n, .n, .n, .c (.bool true)] rfl mixed (by kernel_rfl) ?_
                  refine q_v (v := (N3.val ((absR self X (aboveL Y X))[((k98 : Int)).toNat]?.getD default))) (fun W hC => rn_lbN (vs := (N3.cells ((absR self X (aboveL Y X))[((k98 : Int)).toNat]?.getD default))) g28 rfl (hb104.ext0 hC) rfl rfl) ?_
                  refine q_v (v := (.slice A65 ((levelL ([Bok.mk p55 bb56 X, Bok.mk p58 bb59 Y])).length) c66)) (fun W hC => rn_mv rfl) ?_
                  refine q_v (v := (i64 (k98 : Int))) (fun W hC => rn_mv rfl) ?_
                  refine q_v (v := (ptr g67 (o110 + k98 * 3))) (fun W hC => rn_ie is22 rfl hA112 rfl (by omega) (by omega) rfl) ?_
                  refine q_v (v := (N3.val x109)) (fun W hC => rn_ldN (vs := (N3.cells x109)) g28 rfl rfl (el113.ext0 hC)) ?_
                  refine q_v (v := (.bool (decide (((absR self X (aboveL Y X))[((k98 : Int)).toNat]?.getD default) = x109)))) (fun W hC => eq28 (a := ((absR self X (aboveL Y X))[((k98 : Int)).toNat]?.getD default)) (b := x109) rfl rfl) ?_
                  refine q_v (v := (.bool (decide (((absR self X (aboveL Y X))[((k98 : Int)).toNat]?.getD default) = x109)))) (fun W hC => rn_mv rfl) ?_
                  refine ob_not rfl rfl rfl h114 ?_
                  refine ob_not rfl rfl rfl h114 ?_
                  refine ob_not rfl rfl rfl h114 ?_
                  refine ob_not rfl rfl rfl h114 ?_
                  refine ob_un rfl rfl rfl ?_
                  refine ob_un rfl rfl rfl ?_
                  refine ob_un rfl rfl rfl ?_
                  refine ob_not rfl rfl rfl h114 ?_
                  refine ob_not rfl rfl rfl h114 ?_
                  refine ob_un rfl rfl rfl ?_
                  refine ob_un rfl rfl rfl ?_
                  refine ob_un rfl rfl rfl ?_
                  refine ob_un rfl rfl rfl ?_
                  refine ob_un rfl rfl rfl ?_
                  refine ob_un rfl rfl rfl ?_
                  refine ob_not rfl rfl rfl h114 ?_
                  refine q_v (v := (.bool true)) (fun W hC => rn_pT (b := (decide (((absR self X (aboveL Y X))[((k98 : Int)).toNat]?.getD default) = x109))) rfl h114 rfl) ?_
                  refine ob_end (fun w116 x117 he118 hap119 => ?_)
                  replace hE := hE.step0 x117
                  replace hb61 := hb61.ext0 x117
                  replace hb79 := hb79.ext0 x117
                  replace hb87 := hb87.ext0 x117
                  replace hb104 := hb104.ext0 x117
                  replace el113 := el113.ext0 x117
                  replace hl := hl.ext0 x117
                  replace hm := hm.ext0 x117
                  replace hB57 := hB57.ext0 x117
                  replace hB60 := hB60.ext0 x117
                  replace hl64 := hl64.ext0 x117
                  replace hl68 := hl68.ext0 x117
                  replace hl74 := hl74.ext0 x117
                  replace hl95 := hl95.ext0 x117
                  clear x117
                  refine w_end ?_
                  refine fr_eq (l' := (lk [(i64 n), (i64 self), (.slice A l.length c), (.slice B m.length c'), undef, undef, undef, undef, (z_k98 8), (ptr p55 0), (ptr p58 0), (.slice A65 ((levelL ([Bok.mk p55 bb56 X, Bok.mk p58 bb59 Y])).length) c66), (i64 0), (.slice A71 ((aboveL Y X).length) c72), (i64 0), (ptr b79 0), (i64 0), (ptr b87 0), (i64 (absE X (aboveL Y X))), (.slice A92 ((aboveL Y (absR self X (aboveL Y X))).length) c93), (i64 0), (i64 (k98 : Int)), (ptr b104 0), (i64 0), (i64 n), (.bool (decide (n < 1))), (.bool (decide (n < 1))), (i64 n), (.bool (decide (100 < n))), (.bool (decide (100 < n))), (.bool (decide (100 < n))), (i64 self), (.bool (decide (self < 0))), (.bool (decide (self < 0))), (.bool (decide (self < 0))), (i64 self), (i64 n), (.bool (decide (n ≤ self))), (.bool (decide (n ≤ self))), (.bool (decide (n ≤ self))), (.slice A l.length c), (.bool (decide ((l.length : Int) ≤ 300))), (.bool (!(decide ((l.length : Int) ≤ 300)))), (.bool (!(decide ((l.length : Int) ≤ 300)))), (.bool (!(decide ((l.length : Int) ≤ 300)))), (.slice B m.length c'), (.bool (decide ((m.length : Int) ≤ 300))), (.bool (!(decide ((m.length : Int) ≤ 300)))), (.bool (!(decide ((m.length : Int) ≤ 300)))), undef, (i64 n), (i64 self), (.slice A l.length c), (ptr p55 0), (i64 n), (i64 self), (i64 (self + 1)), (i64 n), (i64 s2), (.slice B m.length c'), (ptr p58 0), (.tuple #[(.slice A65 ((levelL ([Bok.mk p55 bb56 X, Bok.mk p58 bb59 Y])).length) c66), (i64 0)]), (ptr p55 0), (ptr p58 0), (.slice (some ⟨b61, 0, none⟩) 2 2), (.tuple #[(.slice A65 ((levelL ([Bok.mk p55 bb56 X, Bok.mk p58 bb59 Y])).length) c66), (i64 0)]), (.slice A65 ((levelL ([Bok.mk p55 bb56 X, Bok.mk p58 bb59 Y])).length) c66), (i64 0), (.tuple #[(.slice A71 ((aboveL Y X).length) c72), (i64 0)]), (ptr p58 0), (ptr p55 0), (.tuple #[(.slice A71 ((aboveL Y X).length) c72), (i64 0)]), (.slice A71 ((aboveL Y X).length) c72), (i64 0), (.tuple #[(N3.val (X[(self).toNat]?.getD default)), (i64 0)]), (ptr p55 0), (i64 self), (.tuple #[(N3.val (X[(self).toNat]?.getD default)), (i64 0)]), (N3.val (X[(self).toNat]?.getD default)), (i64 0), (.tuple #[(S4.val sA), (i64 (absE X (aboveL Y X)))]), (ptr p55 0), (i64 self), (.slice A71 ((aboveL Y X).length) c72), (.tuple #[(S4.val sA), (i64 (absE X (aboveL Y X)))]), (S4.val sA), (i64 (absE X (aboveL Y X))), (.tuple #[(.slice A92 ((aboveL Y (absR self X (aboveL Y X))).length) c93), (i64 0)]), (ptr p58 0), (ptr p55 0), (.tuple #[(.slice A92 ((aboveL Y (absR self X (aboveL Y X))).length) c93), (i64 0)]), (.slice A92 ((aboveL Y (absR self X (aboveL Y X))).length) c93), (i64 0), (i64 0), (.bool false), (.bool false), (i64 0), (.bool false), (.bool false), (.bool false), (i64 (absE X (aboveL Y X))), (.bool (decide (absE X (aboveL Y X) ≠ 0))), (.bool (decide (absE X (aboveL Y X) ≠ 0))), (.bool (decide (absE X (aboveL Y X) ≠ 0))), (i64 0), (.bool false), (.bool false), (.bool false), (.slice A65 ((levelL ([Bok.mk p55 bb56 X, Bok.mk p58 bb59 Y])).length) c66), (i64 ((levelL ([Bok.mk p55 bb56 X, Bok.mk p58 bb59 Y])).length : Int)), (i64 n), (.bool (decide (((levelL ([Bok.mk p55 bb56 X, Bok.mk p58 bb59 Y])).length : Int) ≠ n))), (.bool (decide (((levelL ([Bok.mk p55 bb56 X, Bok.mk p58 bb59 Y])).length : Int) ≠ n))), (i64 (k98 : Int)), (i64 n), (.bool (decide ((k98 : Int) < n))), (z_k98 116), (z_k98 117), (.tuple #[(N3.val ((absR self X (aboveL Y X))[((k98 : Int)).toNat]?.getD default)), (i64 0)]), (ptr p55 0), (i64 (k98 : Int)), (.tuple #[(N3.val ((absR self X (aboveL Y X))[((k98 : Int)).toNat]?.getD default)), (i64 0)]), (N3.val ((absR self X (aboveL Y X))[((k98 : Int)).toNat]?.getD default)), (i64 0), (N3.val ((absR self X (aboveL Y X))[((k98 : Int)).toNat]?.getD default)), (.slice A65 ((levelL ([Bok.mk p55 bb56 X, Bok.mk p58 bb59 Y])).length) c66), (i64 (k98 : Int)), (ptr g67 (o110 + k98 * 3)), (N3.val x109), (.bool (decide (((absR self X (aboveL Y X))[((k98 : Int)).toNat]?.getD default) = x109))), (.bool (decide (((absR self X (aboveL Y X))[((k98 : Int)).toNat]?.getD default) = x109))), undef, undef, undef, undef, undef, undef, undef, undef, undef, undef, undef, undef, undef, undef, undef, undef, (.bool true), undef, undef, undef, undef, undef, undef, undef, undef, undef, undef, undef, undef, undef, undef, undef, undef, undef, undef, undef, undef, undef, undef, undef, undef, undef, undef])) (by kernel_rfl) ?_
                  refine c_T (b := true) rfl rfl ?_
                  refine c_exit ?_
                  refine t_exit ?_
                  refine b_here ?_
                  refine t_norm ?_
                  refine c_r ?_
                  refine s1 (v := (i64 (k98 : Int))) (rn_mv rfl) ?_
                  refine s1 (v := (i64 ((k98 : Int) + 1))) (rn_add (m := (k98 : Int)) (n := 1) rfl rfl (wr64 (by omega) (by omega))) ?_
                  refine s1 (v := (i64 ((k98 : Int) + 1))) (rn_as rfl) ?_
                  refine w_nil ?_
                  refine t_norm ?_
                  exact ⟨n.toNat - (k98 + 1), by omega, k98 + 1, (lk [(i64 n), (i64 self), (.slice A l.length c), (.slice B m.length c'), undef, undef, undef, undef, (z_k98 8), (ptr p55 0), (ptr p58 0), (.slice A65 ((levelL ([Bok.mk p55 bb56 X, Bok.mk p58 bb59 Y])).length) c66), (i64 0), (.slice A71 ((aboveL Y X).length) c72), (i64 0), (ptr b79 0), (i64 0), (ptr b87 0), (i64 (absE X (aboveL Y X))), (.slice A92 ((aboveL Y (absR self X (aboveL Y X))).length) c93), (i64 0), (i64 ((k98 : Int) + 1)), (ptr b104 0), (i64 0), (i64 n), (.bool (decide (n < 1))), (.bool (decide (n < 1))), (i64 n), (.bool (decide (100 < n))), (.bool (decide (100 < n))), (.bool (decide (100 < n))), (i64 self), (.bool (decide (self < 0))), (.bool (decide (self < 0))), (.bool (decide (self < 0))), (i64 self), (i64 n), (.bool (decide (n ≤ self))), (.bool (decide (n ≤ self))), (.bool (decide (n ≤ self))), (.slice A l.length c), (.bool (decide ((l.length : Int) ≤ 300))), (.bool (!(decide ((l.length : Int) ≤ 300)))), (.bool (!(decide ((l.length : Int) ≤ 300)))), (.bool (!(decide ((l.length : Int) ≤ 300)))), (.slice B m.length c'), (.bool (decide ((m.length : Int) ≤ 300))), (.bool (!(decide ((m.length : Int) ≤ 300)))), (.bool (!(decide ((m.length : Int) ≤ 300)))), undef, (i64 n), (i64 self), (.slice A l.length c), (ptr p55 0), (i64 n), (i64 self), (i64 (self + 1)), (i64 n), (i64 s2), (.slice B m.length c'), (ptr p58 0), (.tuple #[(.slice A65 ((levelL ([Bok.mk p55 bb56 X, Bok.mk p58 bb59 Y])).length) c66), (i64 0)]), (ptr p55 0), (ptr p58 0), (.slice (some ⟨b61, 0, none⟩) 2 2), (.tuple #[(.slice A65 ((levelL ([Bok.mk p55 bb56 X, Bok.mk p58 bb59 Y])).length) c66), (i64 0)]), (.slice A65 ((levelL ([Bok.mk p55 bb56 X, Bok.mk p58 bb59 Y])).length) c66), (i64 0), (.tuple #[(.slice A71 ((aboveL Y X).length) c72), (i64 0)]), (ptr p58 0), (ptr p55 0), (.tuple #[(.slice A71 ((aboveL Y X).length) c72), (i64 0)]), (.slice A71 ((aboveL Y X).length) c72), (i64 0), (.tuple #[(N3.val (X[(self).toNat]?.getD default)), (i64 0)]), (ptr p55 0), (i64 self), (.tuple #[(N3.val (X[(self).toNat]?.getD default)), (i64 0)]), (N3.val (X[(self).toNat]?.getD default)), (i64 0), (.tuple #[(S4.val sA), (i64 (absE X (aboveL Y X)))]), (ptr p55 0), (i64 self), (.slice A71 ((aboveL Y X).length) c72), (.tuple #[(S4.val sA), (i64 (absE X (aboveL Y X)))]), (S4.val sA), (i64 (absE X (aboveL Y X))), (.tuple #[(.slice A92 ((aboveL Y (absR self X (aboveL Y X))).length) c93), (i64 0)]), (ptr p58 0), (ptr p55 0), (.tuple #[(.slice A92 ((aboveL Y (absR self X (aboveL Y X))).length) c93), (i64 0)]), (.slice A92 ((aboveL Y (absR self X (aboveL Y X))).length) c93), (i64 0), (i64 0), (.bool false), (.bool false), (i64 0), (.bool false), (.bool false), (.bool false), (i64 (absE X (aboveL Y X))), (.bool (decide (absE X (aboveL Y X) ≠ 0))), (.bool (decide (absE X (aboveL Y X) ≠ 0))), (.bool (decide (absE X (aboveL Y X) ≠ 0))), (i64 0), (.bool false), (.bool false), (.bool false), (.slice A65 ((levelL ([Bok.mk p55 bb56 X, Bok.mk p58 bb59 Y])).length) c66), (i64 ((levelL ([Bok.mk p55 bb56 X, Bok.mk p58 bb59 Y])).length : Int)), (i64 n), (.bool (decide (((levelL ([Bok.mk p55 bb56 X, Bok.mk p58 bb59 Y])).length : Int) ≠ n))), (.bool (decide (((levelL ([Bok.mk p55 bb56 X, Bok.mk p58 bb59 Y])).length : Int) ≠ n))), (i64 (k98 : Int)), (i64 n), (.bool (decide ((k98 : Int) < n))), (i64 (k98 : Int)), (i64 ((k98 : Int) + 1)), (.tuple #[(N3.val ((absR self X (aboveL Y X))[((k98 : Int)).toNat]?.getD default)), (i64 0)]), (ptr p55 0), (i64 (k98 : Int)), (.tuple #[(N3.val ((absR self X (aboveL Y X))[((k98 : Int)).toNat]?.getD default)), (i64 0)]), (N3.val ((absR self X (aboveL Y X))[((k98 : Int)).toNat]?.getD default)), (i64 0), (N3.val ((absR self X (aboveL Y X))[((k98 : Int)).toNat]?.getD default)), (.slice A65 ((levelL ([Bok.mk p55 bb56 X, Bok.mk p58 bb59 Y])).length) c66), (i64 (k98 : Int)), (ptr g67 (o110 + k98 * 3)), (N3.val x109), (.bool (decide (((absR self X (aboveL Y X))[((k98 : Int)).toNat]?.getD default) = x109))), (.bool (decide (((absR self X (aboveL Y X))[((k98 : Int)).toNat]?.getD default) = x109))), undef, undef, undef, undef, undef, undef, undef, undef, undef, undef, undef, undef, undef, undef, undef, undef, (.bool true), undef, undef, undef, undef, undef, undef, undef, undef, undef, undef, undef, undef, undef, undef, undef, undef, undef, undef, undef, undef, undef, undef, undef, undef, undef, undef]), Fr_congr (by kernel_rfl), rfl, by omega, hE, hb61, hb79, hb87, hl, hm, hB57, hB60, hl64, hl68, hl74, hl95⟩
                ·
                  have p120 := of_decide_eq_false h114
                  rcases Bool.eq_false_or_eq_true (decide ((k98 : Int) = self)) with h121 | h121
                  ·
                    have p122 := of_decide_eq_true h121
                    rcases Bool.eq_false_or_eq_true (decide (((absR self X (aboveL Y X))[((k98 : Int)).toNat]?.getD default) = (X[(self).toNat]?.getD default))) with h123 | h123
                    ·
                      have p124 := of_decide_eq_true h123
                      refine c_seq ?_
                      refine c_dr (n := 24) [.c (N3.val ((absR self X (aboveL Y X))[((k98 : Int)).toNat]?.getD default)), .c (.slice A65 ((levelL ([Bok.mk p55 bb56 X, Bok.mk p58 bb59 Y])).length) c66), .c (i64 (k98 : Int)), .c (ptr g67 (o110 + k98 * 3)), .c (N3.val x109), .c (.bool (decide (((absR self X (aboveL Y X))[((k98 : Int)).toNat]?.getD default) = x109))), .c (.bool (decide (((absR self X (aboveL Y X))[((k98 : Int)).toNat]?.getD default) = x109))), .c (i64 (k98 : Int)), .c (i64 self), .c (.bool (decide ((k98 : Int) = self))), .c (.bool (decide ((k98 : Int) = self))), .c (N3.val ((absR self X (aboveL Y X))[((k98 : Int)).toNat]?.getD default)), .c (N3.val (X[(self).toNat]?.getD default)), .c (.bool (decide (((absR self X (aboveL Y X))[((k98 : Int)).toNat]?.getD default) = (X[(self).toNat]?.getD default)))), .c (.bool (decide (((absR self X (aboveL Y X))[((k98 : Int)).toNat]?.getD default) = (X[(self).toNat]?.getD default)))), .c (.bool (decide (((absR self X (aboveL Y X))[((k98 : Int)).toNat]?.getD default) = (X[(self).toNat]?.getD default)))), .c (.slice A65 ((levelL ([Bok.mk p55 bb56 X, Bok.mk p58 bb59 Y])).length) c66), .c (i64 (k98 : Int)), .c (ptr g67 (o110 + k98 * 3)), .c (ptr g67 ((o110 + k98 * 3) + 2)), .c (i64 x109.kind), .c (.bool (decide (x109.kind = 1))), .c (.bool (decide (x109.kind = 1))), .c (.bool (decide (x109.kind = 1)))] rfl mixed (by kernel_rfl) ?_
                      refine q_v (v := (N3.val ((absR self X (aboveL Y X))[((k98 : Int)).toNat]?.getD default))) (fun W hC => rn_lbN (vs := (N3.cells ((absR self X (aboveL Y X))[((k98 : Int)).toNat]?.getD default))) g28 rfl (hb104.ext0 hC) rfl rfl) ?_
                      refine q_v (v := (.slice A65 ((levelL ([Bok.mk p55 bb56 X, Bok.mk p58 bb59 Y])).length) c66)) (fun W hC => rn_mv rfl) ?_
                      refine q_v (v := (i64 (k98 : Int))) (fun W hC => rn_mv rfl) ?_
                      refine q_v (v := (ptr g67 (o110 + k98 * 3))) (fun W hC => rn_ie is22 rfl hA112 rfl (by omega) (by omega) rfl) ?_
                      refine q_v (v := (N3.val x109)) (fun W hC => rn_ldN (vs := (N3.cells x109)) g28 rfl rfl (el113.ext0 hC)) ?_
                      refine q_v (v := (.bool (decide (((absR self X (aboveL Y X))[((k98 : Int)).toNat]?.getD default) = x109)))) (fun W hC => eq28 (a := ((absR self X (aboveL Y X))[((k98 : Int)).toNat]?.getD default)) (b := x109) rfl rfl) ?_
                      refine q_v (v := (.bool (decide (((absR self X (aboveL Y X))[((k98 : Int)).toNat]?.getD default) = x109)))) (fun W hC => rn_mv rfl) ?_
                      refine ob_yes rfl rfl rfl h114 ?_
                      refine q_v (v := (i64 (k98 : Int))) (fun W hC => rn_mv rfl) ?_
                      refine ob_yes rfl rfl rfl h114 ?_
                      refine q_v (v := (i64 self)) (fun W hC => rn_mv rfl) ?_
                      refine ob_yes rfl rfl rfl h114 ?_
                      refine q_v (v := (.bool (decide ((k98 : Int) = self)))) (fun W hC => rn_eql (m := (k98 : Int)) (n := self) rfl rfl) ?_
                      refine ob_yes rfl rfl rfl h114 ?_
                      refine q_v (v := (.bool (decide ((k98 : Int) = self)))) (fun W hC => rn_mv rfl) ?_
                      refine ob_yes rfl rfl rfl h121 ?_
                      refine q_v (v := (N3.val ((absR self X (aboveL Y X))[((k98 : Int)).toNat]?.getD default))) (fun W hC => rn_lbN (vs := (N3.cells ((absR self X (aboveL Y X))[((k98 : Int)).toNat]?.getD default))) g28 rfl (hb104.ext0 hC) rfl rfl) ?_
                      refine ob_yes rfl rfl rfl h121 ?_
                      refine q_v (v := (N3.val (X[(self).toNat]?.getD default))) (fun W hC => rn_lbN (vs := (N3.cells (X[(self).toNat]?.getD default))) g28 rfl (hb79.ext0 hC) rfl rfl) ?_
                      refine ob_yes rfl rfl rfl h121 ?_
                      refine q_v (v := (.bool (decide (((absR self X (aboveL Y X))[((k98 : Int)).toNat]?.getD default) = (X[(self).toNat]?.getD default))))) (fun W hC => eq28 (a := ((absR self X (aboveL Y X))[((k98 : Int)).toNat]?.getD default)) (b := (X[(self).toNat]?.getD default)) rfl rfl) ?_
                      refine ob_yes rfl rfl rfl h114 ?_
                      refine q_v (v := (.bool (decide (((absR self X (aboveL Y X))[((k98 : Int)).toNat]?.getD default) = (X[(self).toNat]?.getD default))))) (fun W hC => rn_pT (b := (decide ((k98 : Int) = self))) rfl h121 rfl) ?_
                      refine ob_yes rfl rfl rfl h114 ?_
                      refine q_v (v := (.bool (decide (((absR self X (aboveL Y X))[((k98 : Int)).toNat]?.getD default) = (X[(self).toNat]?.getD default))))) (fun W hC => rn_mv rfl) ?_
                      refine ob_yes rfl rfl rfl h123 ?_
                      refine q_v (v := (.slice A65 ((levelL ([Bok.mk p55 bb56 X, Bok.mk p58 bb59 Y])).length) c66)) (fun W hC => rn_mv rfl) ?_
                      refine ob_yes rfl rfl rfl h123 ?_
                      refine q_v (v := (i64 (k98 : Int))) (fun W hC => rn_mv rfl) ?_
                      refine ob_yes rfl rfl rfl h123 ?_
                      refine q_v (v := (ptr g67 (o110 + k98 * 3))) (fun W hC => rn_ie is22 rfl hA112 rfl (by omega) (by omega) rfl) ?_
                      refine ob_yes rfl rfl rfl h123 ?_
                      refine q_v (v := (ptr g67 ((o110 + k98 * 3) + 2))) (fun W hC => rn_fa fa28_2 rfl rfl) ?_
                      refine ob_yes rfl rfl rfl h123 ?_
                      refine q_v (v := (i64 x109.kind)) (fun W hC => rn_ld1 o3 rfl ((el113.ext0 hC) 2 _ rfl)) ?_
                      refine ob_yes rfl rfl rfl h123 ?_
                      refine q_v (v := (.bool (decide (x109.kind = 1)))) (fun W hC => rn_eql (m := x109.kind) (n := 1) rfl rfl) ?_
                      refine ob_yes rfl rfl rfl h114 ?_
                      refine q_v (v := (.bool (decide (x109.kind = 1)))) (fun W hC => rn_pT (b := (decide (((absR self X (aboveL Y X))[((k98 : Int)).toNat]?.getD default) = (X[(self).toNat]?.getD default)))) rfl h123 rfl) ?_
                      refine q_v (v := (.bool (decide (x109.kind = 1)))) (fun W hC => rn_pF (b := (decide (((absR self X (aboveL Y X))[((k98 : Int)).toNat]?.getD default) = x109))) rfl h114 rfl) ?_
                      refine ob_end (fun w125 x126 he127 hap128 => ?_)
                      replace hE := hE.step0 x126
                      replace hb61 := hb61.ext0 x126
                      replace hb79 := hb79.ext0 x126
                      replace hb87 := hb87.ext0 x126
                      replace hb104 := hb104.ext0 x126
                      replace el113 := el113.ext0 x126
                      replace hl := hl.ext0 x126
                      replace hm := hm.ext0 x126
                      replace hB57 := hB57.ext0 x126
                      replace hB60 := hB60.ext0 x126
                      replace hl64 := hl64.ext0 x126
                      replace hl68 := hl68.ext0 x126
                      replace hl74 := hl74.ext0 x126
                      replace hl95 := hl95.ext0 x126
                      clear x126
                      refine w_end ?_
                      refine fr_eq (l' := (lk [(i64 n), (i64 self), (.slice A l.length c), (.slice B m.length c'), undef, undef, undef, undef, (z_k98 8), (ptr p55 0), (ptr p58 0), (.slice A65 ((levelL ([Bok.mk p55 bb56 X, Bok.mk p58 bb59 Y])).length) c66), (i64 0), (.slice A71 ((aboveL Y X).length) c72), (i64 0), (ptr b79 0), (i64 0), (ptr b87 0), (i64 (absE X (aboveL Y X))), (.slice A92 ((aboveL Y (absR self X (aboveL Y X))).length) c93), (i64 0), (i64 (k98 : Int)), (ptr b104 0), (i64 0), (i64 n), (.bool (decide (n < 1))), (.bool (decide (n < 1))), (i64 n), (.bool (decide (100 < n))), (.bool (decide (100 < n))), (.bool (decide (100 < n))), (i64 self), (.bool (decide (self < 0))), (.bool (decide (self < 0))), (.bool (decide (self < 0))), (i64 self), (i64 n), (.bool (decide (n ≤ self))), (.bool (decide (n ≤ self))), (.bool (decide (n ≤ self))), (.slice A l.length c), (.bool (decide ((l.length : Int) ≤ 300))), (.bool (!(decide ((l.length : Int) ≤ 300)))), (.bool (!(decide ((l.length : Int) ≤ 300)))), (.bool (!(decide ((l.length : Int) ≤ 300)))), (.slice B m.length c'), (.bool (decide ((m.length : Int) ≤ 300))), (.bool (!(decide ((m.length : Int) ≤ 300)))), (.bool (!(decide ((m.length : Int) ≤ 300)))), undef, (i64 n), (i64 self), (.slice A l.length c), (ptr p55 0), (i64 n), (i64 self), (i64 (self + 1)), (i64 n), (i64 s2), (.slice B m.length c'), (ptr p58 0), (.tuple #[(.slice A65 ((levelL ([Bok.mk p55 bb56 X, Bok.mk p58 bb59 Y])).length) c66), (i64 0)]), (ptr p55 0), (ptr p58 0), (.slice (some ⟨b61, 0, none⟩) 2 2), (.tuple #[(.slice A65 ((levelL ([Bok.mk p55 bb56 X, Bok.mk p58 bb59 Y])).length) c66), (i64 0)]), (.slice A65 ((levelL ([Bok.mk p55 bb56 X, Bok.mk p58 bb59 Y])).length) c66), (i64 0), (.tuple #[(.slice A71 ((aboveL Y X).length) c72), (i64 0)]), (ptr p58 0), (ptr p55 0), (.tuple #[(.slice A71 ((aboveL Y X).length) c72), (i64 0)]), (.slice A71 ((aboveL Y X).length) c72), (i64 0), (.tuple #[(N3.val (X[(self).toNat]?.getD default)), (i64 0)]), (ptr p55 0), (i64 self), (.tuple #[(N3.val (X[(self).toNat]?.getD default)), (i64 0)]), (N3.val (X[(self).toNat]?.getD default)), (i64 0), (.tuple #[(S4.val sA), (i64 (absE X (aboveL Y X)))]), (ptr p55 0), (i64 self), (.slice A71 ((aboveL Y X).length) c72), (.tuple #[(S4.val sA), (i64 (absE X (aboveL Y X)))]), (S4.val sA), (i64 (absE X (aboveL Y X))), (.tuple #[(.slice A92 ((aboveL Y (absR self X (aboveL Y X))).length) c93), (i64 0)]), (ptr p58 0), (ptr p55 0), (.tuple #[(.slice A92 ((aboveL Y (absR self X (aboveL Y X))).length) c93), (i64 0)]), (.slice A92 ((aboveL Y (absR self X (aboveL Y X))).length) c93), (i64 0), (i64 0), (.bool false), (.bool false), (i64 0), (.bool false), (.bool false), (.bool false), (i64 (absE X (aboveL Y X))), (.bool (decide (absE X (aboveL Y X) ≠ 0))), (.bool (decide (absE X (aboveL Y X) ≠ 0))), (.bool (decide (absE X (aboveL Y X) ≠ 0))), (i64 0), (.bool false), (.bool false), (.bool false), (.slice A65 ((levelL ([Bok.mk p55 bb56 X, Bok.mk p58 bb59 Y])).length) c66), (i64 ((levelL ([Bok.mk p55 bb56 X, Bok.mk p58 bb59 Y])).length : Int)), (i64 n), (.bool (decide (((levelL ([Bok.mk p55 bb56 X, Bok.mk p58 bb59 Y])).length : Int) ≠ n))), (.bool (decide (((levelL ([Bok.mk p55 bb56 X, Bok.mk p58 bb59 Y])).length : Int) ≠ n))), (i64 (k98 : Int)), (i64 n), (.bool (decide ((k98 : Int) < n))), (z_k98 116), (z_k98 117), (.tuple #[(N3.val ((absR self X (aboveL Y X))[((k98 : Int)).toNat]?.getD default)), (i64 0)]), (ptr p55 0), (i64 (k98 : Int)), (.tuple #[(N3.val ((absR self X (aboveL Y X))[((k98 : Int)).toNat]?.getD default)), (i64 0)]), (N3.val ((absR self X (aboveL Y X))[((k98 : Int)).toNat]?.getD default)), (i64 0), (N3.val ((absR self X (aboveL Y X))[((k98 : Int)).toNat]?.getD default)), (.slice A65 ((levelL ([Bok.mk p55 bb56 X, Bok.mk p58 bb59 Y])).length) c66), (i64 (k98 : Int)), (ptr g67 (o110 + k98 * 3)), (N3.val x109), (.bool (decide (((absR self X (aboveL Y X))[((k98 : Int)).toNat]?.getD default) = x109))), (.bool (decide (((absR self X (aboveL Y X))[((k98 : Int)).toNat]?.getD default) = x109))), (i64 (k98 : Int)), (i64 self), (.bool (decide ((k98 : Int) = self))), (.bool (decide ((k98 : Int) = self))), (N3.val ((absR self X (aboveL Y X))[((k98 : Int)).toNat]?.getD default)), (N3.val (X[(self).toNat]?.getD default)), (.bool (decide (((absR self X (aboveL Y X))[((k98 : Int)).toNat]?.getD default) = (X[(self).toNat]?.getD default)))), (.bool (decide (((absR self X (aboveL Y X))[((k98 : Int)).toNat]?.getD default) = (X[(self).toNat]?.getD default)))), (.bool (decide (((absR self X (aboveL Y X))[((k98 : Int)).toNat]?.getD default) = (X[(self).toNat]?.getD default)))), (.slice A65 ((levelL ([Bok.mk p55 bb56 X, Bok.mk p58 bb59 Y])).length) c66), (i64 (k98 : Int)), (ptr g67 (o110 + k98 * 3)), (ptr g67 ((o110 + k98 * 3) + 2)), (i64 x109.kind), (.bool (decide (x109.kind = 1))), (.bool (decide (x109.kind = 1))), (.bool (decide (x109.kind = 1))), undef, undef, undef, undef, undef, undef, undef, undef, undef, undef, undef, undef, undef, undef, undef, undef, undef, undef, undef, undef, undef, undef, undef, undef, undef, undef])) (by kernel_rfl) ?_
                      refine c_if (b := (decide (x109.kind = 1))) rfl (fun h129 => ?_) (fun h129 => ?_)
                      ·
                        have p130 := of_decide_eq_true h129
                        refine c_exit ?_
                        refine t_exit ?_
                        refine b_here ?_
                        refine t_norm ?_
                        refine c_r ?_
                        refine s1 (v := (i64 (k98 : Int))) (rn_mv rfl) ?_
                        refine s1 (v := (i64 ((k98 : Int) + 1))) (rn_add (m := (k98 : Int)) (n := 1) rfl rfl (wr64 (by omega) (by omega))) ?_
                        refine s1 (v := (i64 ((k98 : Int) + 1))) (rn_as rfl) ?_
                        refine w_nil ?_
                        refine t_norm ?_
                        exact ⟨n.toNat - (k98 + 1), by omega, k98 + 1, (lk [(i64 n), (i64 self), (.slice A l.length c), (.slice B m.length c'), undef, undef, undef, undef, (z_k98 8), (ptr p55 0), (ptr p58 0), (.slice A65 ((levelL ([Bok.mk p55 bb56 X, Bok.mk p58 bb59 Y])).length) c66), (i64 0), (.slice A71 ((aboveL Y X).length) c72), (i64 0), (ptr b79 0), (i64 0), (ptr b87 0), (i64 (absE X (aboveL Y X))), (.slice A92 ((aboveL Y (absR self X (aboveL Y X))).length) c93), (i64 0), (i64 ((k98 : Int) + 1)), (ptr b104 0), (i64 0), (i64 n), (.bool (decide (n < 1))), (.bool (decide (n < 1))), (i64 n), (.bool (decide (100 < n))), (.bool (decide (100 < n))), (.bool (decide (100 < n))), (i64 self), (.bool (decide (self < 0))), (.bool (decide (self < 0))), (.bool (decide (self < 0))), (i64 self), (i64 n), (.bool (decide (n ≤ self))), (.bool (decide (n ≤ self))), (.bool (decide (n ≤ self))), (.slice A l.length c), (.bool (decide ((l.length : Int) ≤ 300))), (.bool (!(decide ((l.length : Int) ≤ 300)))), (.bool (!(decide ((l.length : Int) ≤ 300)))), (.bool (!(decide ((l.length : Int) ≤ 300)))), (.slice B m.length c'), (.bool (decide ((m.length : Int) ≤ 300))), (.bool (!(decide ((m.length : Int) ≤ 300)))), (.bool (!(decide ((m.length : Int) ≤ 300)))), undef, (i64 n), (i64 self), (.slice A l.length c), (ptr p55 0), (i64 n), (i64 self), (i64 (self + 1)), (i64 n), (i64 s2), (.slice B m.length c'), (ptr p58 0), (.tuple #[(.slice A65 ((levelL ([Bok.mk p55 bb56 X, Bok.mk p58 bb59 Y])).length) c66), (i64 0)]), (ptr p55 0), (ptr p58 0), (.slice (some ⟨b61, 0, none⟩) 2 2), (.tuple #[(.slice A65 ((levelL ([Bok.mk p55 bb56 X, Bok.mk p58 bb59 Y])).length) c66), (i64 0)]), (.slice A65 ((levelL ([Bok.mk p55 bb56 X, Bok.mk p58 bb59 Y])).length) c66), (i64 0), (.tuple #[(.slice A71 ((aboveL Y X).length) c72), (i64 0)]), (ptr p58 0), (ptr p55 0), (.tuple #[(.slice A71 ((aboveL Y X).length) c72), (i64 0)]), (.slice A71 ((aboveL Y X).length) c72), (i64 0), (.tuple #[(N3.val (X[(self).toNat]?.getD default)), (i64 0)]), (ptr p55 0), (i64 self), (.tuple #[(N3.val (X[(self).toNat]?.getD default)), (i64 0)]), (N3.val (X[(self).toNat]?.getD default)), (i64 0), (.tuple #[(S4.val sA), (i64 (absE X (aboveL Y X)))]), (ptr p55 0), (i64 self), (.slice A71 ((aboveL Y X).length) c72), (.tuple #[(S4.val sA), (i64 (absE X (aboveL Y X)))]), (S4.val sA), (i64 (absE X (aboveL Y X))), (.tuple #[(.slice A92 ((aboveL Y (absR self X (aboveL Y X))).length) c93), (i64 0)]), (ptr p58 0), (ptr p55 0), (.tuple #[(.slice A92 ((aboveL Y (absR self X (aboveL Y X))).length) c93), (i64 0)]), (.slice A92 ((aboveL Y (absR self X (aboveL Y X))).length) c93), (i64 0), (i64 0), (.bool false), (.bool false), (i64 0), (.bool false), (.bool false), (.bool false), (i64 (absE X (aboveL Y X))), (.bool (decide (absE X (aboveL Y X) ≠ 0))), (.bool (decide (absE X (aboveL Y X) ≠ 0))), (.bool (decide (absE X (aboveL Y X) ≠ 0))), (i64 0), (.bool false), (.bool false), (.bool false), (.slice A65 ((levelL ([Bok.mk p55 bb56 X, Bok.mk p58 bb59 Y])).length) c66), (i64 ((levelL ([Bok.mk p55 bb56 X, Bok.mk p58 bb59 Y])).length : Int)), (i64 n), (.bool (decide (((levelL ([Bok.mk p55 bb56 X, Bok.mk p58 bb59 Y])).length : Int) ≠ n))), (.bool (decide (((levelL ([Bok.mk p55 bb56 X, Bok.mk p58 bb59 Y])).length : Int) ≠ n))), (i64 (k98 : Int)), (i64 n), (.bool (decide ((k98 : Int) < n))), (i64 (k98 : Int)), (i64 ((k98 : Int) + 1)), (.tuple #[(N3.val ((absR self X (aboveL Y X))[((k98 : Int)).toNat]?.getD default)), (i64 0)]), (ptr p55 0), (i64 (k98 : Int)), (.tuple #[(N3.val ((absR self X (aboveL Y X))[((k98 : Int)).toNat]?.getD default)), (i64 0)]), (N3.val ((absR self X (aboveL Y X))[((k98 : Int)).toNat]?.getD default)), (i64 0), (N3.val ((absR self X (aboveL Y X))[((k98 : Int)).toNat]?.getD default)), (.slice A65 ((levelL ([Bok.mk p55 bb56 X, Bok.mk p58 bb59 Y])).length) c66), (i64 (k98 : Int)), (ptr g67 (o110 + k98 * 3)), (N3.val x109), (.bool (decide (((absR self X (aboveL Y X))[((k98 : Int)).toNat]?.getD default) = x109))), (.bool (decide (((absR self X (aboveL Y X))[((k98 : Int)).toNat]?.getD default) = x109))), (i64 (k98 : Int)), (i64 self), (.bool (decide ((k98 : Int) = self))), (.bool (decide ((k98 : Int) = self))), (N3.val ((absR self X (aboveL Y X))[((k98 : Int)).toNat]?.getD default)), (N3.val (X[(self).toNat]?.getD default)), (.bool (decide (((absR self X (aboveL Y X))[((k98 : Int)).toNat]?.getD default) = (X[(self).toNat]?.getD default)))), (.bool (decide (((absR self X (aboveL Y X))[((k98 : Int)).toNat]?.getD default) = (X[(self).toNat]?.getD default)))), (.bool (decide (((absR self X (aboveL Y X))[((k98 : Int)).toNat]?.getD default) = (X[(self).toNat]?.getD default)))), (.slice A65 ((levelL ([Bok.mk p55 bb56 X, Bok.mk p58 bb59 Y])).length) c66), (i64 (k98 : Int)), (ptr g67 (o110 + k98 * 3)), (ptr g67 ((o110 + k98 * 3) + 2)), (i64 x109.kind), (.bool (decide (x109.kind = 1))), (.bool (decide (x109.kind = 1))), (.bool (decide (x109.kind = 1))), undef, undef, undef, undef, undef, undef, undef, undef, undef, undef, undef, undef, undef, undef, undef, undef, undef, undef, undef, undef, undef, undef, undef, undef, undef, undef]), Fr_congr (by kernel_rfl), rfl, by omega, hE, hb61, hb79, hb87, hl, hm, hB57, hB60, hl64, hl68, hl74, hl95⟩
                      ·
                        have p131 := of_decide_eq_false h129
                        refine c_skip' ?_
                        refine t_norm ?_
                        refine c_rs ?_
                        refine s1 (v := (.bool false)) (rn_as rfl) ?_
                        refine w_end ?_
                        refine c_ret ?_
                        refine b_ret ?_
                        refine t_ret ?_
                        refine t_ret ?_
                        refine b_ret ?_
                        refine t_ret ?_
                        refine bp_ret (rs1 rfl (rv_tmp (v := (.bool false)) rfl)) ?_
                        exfalso
                        have hxk : X[k98]? = some X[k98] := List.getElem?_eq_getElem (by omega)
                        have hyk : Y[k98]? = some Y[k98] := List.getElem?_eq_getElem (by omega)
                        have hak : (absR self X (aboveL Y X))[k98]? = some ((absR self X (aboveL Y X))[k98]?.getD default) := by rw [List.getElem?_eq_getElem (by omega)]; rfl
                        have hml := meets_law (self := self) gX gY lX lY (by omega) hxk hyk hak hx111
                        -- decide (n < 1) False h1
                        -- decide (100 < n) False h6
                        -- decide (self < 0) False h11
                        -- decide (n ≤ self) False h16
                        -- (!(decide ((l.length : Int) ≤ 300))) False h23
                        -- (decide ((l.length : Int) ≤ 300)) True h28
                        -- (!(decide ((m.length : Int) ≤ 300))) False h32
                        -- (decide ((m.length : Int) ≤ 300)) True h37
                        -- decide ((k98 : Int) < n) True h100
                        -- decide (((absR self X (aboveL Y X))[((k98 : Int)).toNat]?.getD default) = x109) False h114
                        -- decide ((k98 : Int) = self) True h121
                        -- decide (((absR self X (aboveL Y X))[((k98 : Int)).toNat]?.getD default) = (X[(self).toNat]?.getD default)) True h123
                        -- decide (x109.kind = 1) False h129
                        rcases hml with h_ | ⟨h1_, h2_, h3_⟩
                        · exact of_decide_eq_false h114 h_
                        · exact of_decide_eq_false h129 h3_
                    ·
                      have p132 := of_decide_eq_false h123
                      refine c_seq ?_
                      refine c_dr (n := 24) [.c (N3.val ((absR self X (aboveL Y X))[((k98 : Int)).toNat]?.getD default)), .c (.slice A65 ((levelL ([Bok.mk p55 bb56 X, Bok.mk p58 bb59 Y])).length) c66), .c (i64 (k98 : Int)), .c (ptr g67 (o110 + k98 * 3)), .c (N3.val x109), .c (.bool (decide (((absR self X (aboveL Y X))[((k98 : Int)).toNat]?.getD default) = x109))), .c (.bool (decide (((absR self X (aboveL Y X))[((k98 : Int)).toNat]?.getD default) = x109))), .c (i64 (k98 : Int)), .c (i64 self), .c (.bool (decide ((k98 : Int) = self))), .c (.bool (decide ((k98 : Int) = self))), .c (N3.val ((absR self X (aboveL Y X))[((k98 : Int)).toNat]?.getD default)), .c (N3.val (X[(self).toNat]?.getD default)), .c (.bool (decide (((absR self X (aboveL Y X))[((k98 : Int)).toNat]?.getD default) = (X[(self).toNat]?.getD default)))), .c (.bool (decide (((absR self X (aboveL Y X))[((k98 : Int)).toNat]?.getD default) = (X[(self).toNat]?.getD default)))), .c (.bool (decide (((absR self X (aboveL Y X))[((k98 : Int)).toNat]?.getD default) = (X[(self).toNat]?.getD default)))), .n, .n, .n, .n, .n, .n, .c (.bool false), .c (.bool false)] rfl mixed (by kernel_rfl) ?_
                      refine q_v (v := (N3.val ((absR self X (aboveL Y X))[((k98 : Int)).toNat]?.getD default))) (fun W hC => rn_lbN (vs := (N3.cells ((absR self X (aboveL Y X))[((k98 : Int)).toNat]?.getD default))) g28 rfl (hb104.ext0 hC) rfl rfl) ?_
                      refine q_v (v := (.slice A65 ((levelL ([Bok.mk p55 bb56 X, Bok.mk p58 bb59 Y])).length) c66)) (fun W hC => rn_mv rfl) ?_
                      refine q_v (v := (i64 (k98 : Int))) (fun W hC => rn_mv rfl) ?_
                      refine q_v (v := (ptr g67 (o110 + k98 * 3))) (fun W hC => rn_ie is22 rfl hA112 rfl (by omega) (by omega) rfl) ?_
                      refine q_v (v := (N3.val x109)) (fun W hC => rn_ldN (vs := (N3.cells x109)) g28 rfl rfl (el113.ext0 hC)) ?_
                      refine q_v (v := (.bool (decide (((absR self X (aboveL Y X))[((k98 : Int)).toNat]?.getD default) = x109)))) (fun W hC => eq28 (a := ((absR self X (aboveL Y X))[((k98 : Int)).toNat]?.getD default)) (b := x109) rfl rfl) ?_
                      refine q_v (v := (.bool (decide (((absR self X (aboveL Y X))[((k98 : Int)).toNat]?.getD default) = x109)))) (fun W hC => rn_mv rfl) ?_
                      refine ob_yes rfl rfl rfl h114 ?_
                      refine q_v (v := (i64 (k98 : Int))) (fun W hC => rn_mv rfl) ?_
                      refine ob_yes rfl rfl rfl h114 ?_
                      refine q_v (v := (i64 self)) (fun W hC => rn_mv rfl) ?_
                      refine ob_yes rfl rfl rfl h114 ?_
                      refine q_v (v := (.bool (decide ((k98 : Int) = self)))) (fun W hC => rn_eql (m := (k98 : Int)) (n := self) rfl rfl) ?_
                      refine ob_yes rfl rfl rfl h114 ?_
                      refine q_v (v := (.bool (decide ((k98 : Int) = self)))) (fun W hC => rn_mv rfl) ?_
                      refine ob_yes rfl rfl rfl h121 ?_
                      refine q_v (v := (N3.val ((absR self X (aboveL Y X))[((k98 : Int)).toNat]?.getD default))) (fun W hC => rn_lbN (vs := (N3.cells ((absR self X (aboveL Y X))[((k98 : Int)).toNat]?.getD default))) g28 rfl (hb104.ext0 hC) rfl rfl) ?_
                      refine ob_yes rfl rfl rfl h121 ?_
                      refine q_v (v := (N3.val (X[(self).toNat]?.getD default))) (fun W hC => rn_lbN (vs := (N3.cells (X[(self).toNat]?.getD default))) g28 rfl (hb79.ext0 hC) rfl rfl) ?_
                      refine ob_yes rfl rfl rfl h121 ?_
                      refine q_v (v := (.bool (decide (((absR self X (aboveL Y X))[((k98 : Int)).toNat]?.getD default) = (X[(self).toNat]?.getD default))))) (fun W hC => eq28 (a := ((absR self X (aboveL Y X))[((k98 : Int)).toNat]?.getD default)) (b := (X[(self).toNat]?.getD default)) rfl rfl) ?_
                      refine ob_yes rfl rfl rfl h114 ?_
                      refine q_v (v := (.bool (decide (((absR self X (aboveL Y X))[((k98 : Int)).toNat]?.getD default) = (X[(self).toNat]?.getD default))))) (fun W hC => rn_pT (b := (decide ((k98 : Int) = self))) rfl h121 rfl) ?_
                      refine ob_yes rfl rfl rfl h114 ?_
                      refine q_v (v := (.bool (decide (((absR self X (aboveL Y X))[((k98 : Int)).toNat]?.getD default) = (X[(self).toNat]?.getD default))))) (fun W hC => rn_mv rfl) ?_
                      refine ob_not rfl rfl rfl h123 ?_
                      refine ob_not rfl rfl rfl h123 ?_
                      refine ob_not rfl rfl rfl h123 ?_
                      refine ob_not rfl rfl rfl h123 ?_
                      refine ob_not rfl rfl rfl h123 ?_
                      refine ob_not rfl rfl rfl h123 ?_
                      refine ob_yes rfl rfl rfl h114 ?_
                      refine q_v (v := (.bool false)) (fun W hC => rn_pF (b := (decide (((absR self X (aboveL Y X))[((k98 : Int)).toNat]?.getD default) = (X[(self).toNat]?.getD default)))) rfl h123 rfl) ?_
                      refine q_v (v := (.bool false)) (fun W hC => rn_pF (b := (decide (((absR self X (aboveL Y X))[((k98 : Int)).toNat]?.getD default) = x109))) rfl h114 rfl) ?_
                      refine ob_end (fun w133 x134 he135 hap136 => ?_)
                      replace hE := hE.step0 x134
                      replace hb61 := hb61.ext0 x134
                      replace hb79 := hb79.ext0 x134
                      replace hb87 := hb87.ext0 x134
                      replace hb104 := hb104.ext0 x134
                      replace el113 := el113.ext0 x134
                      replace hl := hl.ext0 x134
                      replace hm := hm.ext0 x134
                      replace hB57 := hB57.ext0 x134
                      replace hB60 := hB60.ext0 x134
                      replace hl64 := hl64.ext0 x134
                      replace hl68 := hl68.ext0 x134
                      replace hl74 := hl74.ext0 x134
                      replace hl95 := hl95.ext0 x134
                      clear x134
                      refine w_end ?_
                      refine fr_eq (l' := (lk [(i64 n), (i64 self), (.slice A l.length c), (.slice B m.length c'), undef, undef, undef, undef, (z_k98 8), (ptr p55 0), (ptr p58 0), (.slice A65 ((levelL ([Bok.mk p55 bb56 X, Bok.mk p58 bb59 Y])).length) c66), (i64 0), (.slice A71 ((aboveL Y X).length) c72), (i64 0), (ptr b79 0), (i64 0), (ptr b87 0), (i64 (absE X (aboveL Y X))), (.slice A92 ((aboveL Y (absR self X (aboveL Y X))).length) c93), (i64 0), (i64 (k98 : Int)), (ptr b104 0), (i64 0), (i64 n), (.bool (decide (n < 1))), (.bool (decide (n < 1))), (i64 n), (.bool (decide (100 < n))), (.bool (decide (100 < n))), (.bool (decide (100 < n))), (i64 self), (.bool (decide (self < 0))), (.bool (decide (self < 0))), (.bool (decide (self < 0))), (i64 self), (i64 n), (.bool (decide (n ≤ self))), (.bool (decide (n ≤ self))), (.bool (decide (n ≤ self))), (.slice A l.length c), (.bool (decide ((l.length : Int) ≤ 300))), (.bool (!(decide ((l.length : Int) ≤ 300)))), (.bool (!(decide ((l.length : Int) ≤ 300)))), (.bool (!(decide ((l.length : Int) ≤ 300)))), (.slice B m.length c'), (.bool (decide ((m.length : Int) ≤ 300))), (.bool (!(decide ((m.length : Int) ≤ 300)))), (.bool (!(decide ((m.length : Int) ≤ 300)))), undef, (i64 n), (i64 self), (.slice A l.length c), (ptr p55 0), (i64 n), (i64 self), (i64 (self + 1)), (i64 n), (i64 s2), (.slice B m.length c'), (ptr p58 0), (.tuple #[(.slice A65 ((levelL ([Bok.mk p55 bb56 X, Bok.mk p58 bb59 Y])).length) c66), (i64 0)]), (ptr p55 0), (ptr p58 0), (.slice (some ⟨b61, 0, none⟩) 2 2), (.tuple #[(.slice A65 ((levelL ([Bok.mk p55 bb56 X, Bok.mk p58 bb59 Y])).length) c66), (i64 0)]), (.slice A65 ((levelL ([Bok.mk p55 bb56 X, Bok.mk p58 bb59 Y])).length) c66), (i64 0), (.tuple #[(.slice A71 ((aboveL Y X).length) c72), (i64 0)]), (ptr p58 0), (ptr p55 0), (.tuple #[(.slice A71 ((aboveL Y X).length) c72), (i64 0)]), (.slice A71 ((aboveL Y X).length) c72), (i64 0), (.tuple #[(N3.val (X[(self).toNat]?.getD default)), (i64 0)]), (ptr p55 0), (i64 self), (.tuple #[(N3.val (X[(self).toNat]?.getD default)), (i64 0)]), (N3.val (X[(self).toNat]?.getD default)), (i64 0), (.tuple #[(S4.val sA), (i64 (absE X (aboveL Y X)))]), (ptr p55 0), (i64 self), (.slice A71 ((aboveL Y X).length) c72), (.tuple #[(S4.val sA), (i64 (absE X (aboveL Y X)))]), (S4.val sA), (i64 (absE X (aboveL Y X))), (.tuple #[(.slice A92 ((aboveL Y (absR self X (aboveL Y X))).length) c93), (i64 0)]), (ptr p58 0), (ptr p55 0), (.tuple #[(.slice A92 ((aboveL Y (absR self X (aboveL Y X))).length) c93), (i64 0)]), (.slice A92 ((aboveL Y (absR self X (aboveL Y X))).length) c93), (i64 0), (i64 0), (.bool false), (.bool false), (i64 0), (.bool false), (.bool false), (.bool false), (i64 (absE X (aboveL Y X))), (.bool (decide (absE X (aboveL Y X) ≠ 0))), (.bool (decide (absE X (aboveL Y X) ≠ 0))), (.bool (decide (absE X (aboveL Y X) ≠ 0))), (i64 0), (.bool false), (.bool false), (.bool false), (.slice A65 ((levelL ([Bok.mk p55 bb56 X, Bok.mk p58 bb59 Y])).length) c66), (i64 ((levelL ([Bok.mk p55 bb56 X, Bok.mk p58 bb59 Y])).length : Int)), (i64 n), (.bool (decide (((levelL ([Bok.mk p55 bb56 X, Bok.mk p58 bb59 Y])).length : Int) ≠ n))), (.bool (decide (((levelL ([Bok.mk p55 bb56 X, Bok.mk p58 bb59 Y])).length : Int) ≠ n))), (i64 (k98 : Int)), (i64 n), (.bool (decide ((k98 : Int) < n))), (z_k98 116), (z_k98 117), (.tuple #[(N3.val ((absR self X (aboveL Y X))[((k98 : Int)).toNat]?.getD default)), (i64 0)]), (ptr p55 0), (i64 (k98 : Int)), (.tuple #[(N3.val ((absR self X (aboveL Y X))[((k98 : Int)).toNat]?.getD default)), (i64 0)]), (N3.val ((absR self X (aboveL Y X))[((k98 : Int)).toNat]?.getD default)), (i64 0), (N3.val ((absR self X (aboveL Y X))[((k98 : Int)).toNat]?.getD default)), (.slice A65 ((levelL ([Bok.mk p55 bb56 X, Bok.mk p58 bb59 Y])).length) c66), (i64 (k98 : Int)), (ptr g67 (o110 + k98 * 3)), (N3.val x109), (.bool (decide (((absR self X (aboveL Y X))[((k98 : Int)).toNat]?.getD default) = x109))), (.bool (decide (((absR self X (aboveL Y X))[((k98 : Int)).toNat]?.getD default) = x109))), (i64 (k98 : Int)), (i64 self), (.bool (decide ((k98 : Int) = self))), (.bool (decide ((k98 : Int) = self))), (N3.val ((absR self X (aboveL Y X))[((k98 : Int)).toNat]?.getD default)), (N3.val (X[(self).toNat]?.getD default)), (.bool (decide (((absR self X (aboveL Y X))[((k98 : Int)).toNat]?.getD default) = (X[(self).toNat]?.getD default)))), (.bool (decide (((absR self X (aboveL Y X))[((k98 : Int)).toNat]?.getD default) = (X[(self).toNat]?.getD default)))), (.bool (decide (((absR self X (aboveL Y X))[((k98 : Int)).toNat]?.getD default) = (X[(self).toNat]?.getD default)))), undef, undef, undef, undef, undef, undef, (.bool false), (.bool false), undef, undef, undef, undef, undef, undef, undef, undef, undef, undef, undef, undef, undef, undef, undef, undef, undef, undef, undef, undef, undef, undef, undef, undef, undef, undef])) (by kernel_rfl) ?_
                      refine c_F (b := false) rfl rfl ?_
                      refine c_skip' ?_
                      refine t_norm ?_
                      refine c_rs ?_
                      refine s1 (v := (.bool false)) (rn_as rfl) ?_
                      refine w_end ?_
                      refine c_ret ?_
                      refine b_ret ?_
                      refine t_ret ?_
                      refine t_ret ?_
                      refine b_ret ?_
                      refine t_ret ?_
                      refine bp_ret (rs1 rfl (rv_tmp (v := (.bool false)) rfl)) ?_
                      exfalso
                      have hxk : X[k98]? = some X[k98] := List.getElem?_eq_getElem (by omega)
                      have hyk : Y[k98]? = some Y[k98] := List.getElem?_eq_getElem (by omega)
                      have hak : (absR self X (aboveL Y X))[k98]? = some ((absR self X (aboveL Y X))[k98]?.getD default) := by rw [List.getElem?_eq_getElem (by omega)]; rfl
                      have hml := meets_law (self := self) gX gY lX lY (by omega) hxk hyk hak hx111
                      -- decide (n < 1) False h1
                      -- decide (100 < n) False h6
                      -- decide (self < 0) False h11
                      -- decide (n ≤ self) False h16
                      -- (!(decide ((l.length : Int) ≤ 300))) False h23
                      -- (decide ((l.length : Int) ≤ 300)) True h28
                      -- (!(decide ((m.length : Int) ≤ 300))) False h32
                      -- (decide ((m.length : Int) ≤ 300)) True h37
                      -- decide ((k98 : Int) < n) True h100
                      -- decide (((absR self X (aboveL Y X))[((k98 : Int)).toNat]?.getD default) = x109) False h114
                      -- decide ((k98 : Int) = self) True h121
                      -- decide (((absR self X (aboveL Y X))[((k98 : Int)).toNat]?.getD default) = (X[(self).toNat]?.getD default)) False h123
                      rcases hml with h_ | ⟨h1_, h2_, h3_⟩
                      · exact of_decide_eq_false h114 h_
                      · refine of_decide_eq_false h123 ?_; rw [show self.toNat = k98 by omega, show ((k98 : Int)).toNat = k98 by omega, h2_, hxk]; rfl
                  ·
                    have p137 := of_decide_eq_false h121
                    refine c_seq ?_
                    refine c_dr (n := 24) [.c (N3.val ((absR self X (aboveL Y X))[((k98 : Int)).toNat]?.getD default)), .c (.slice A65 ((levelL ([Bok.mk p55 bb56 X, Bok.mk p58 bb59 Y])).length) c66), .c (i64 (k98 : Int)), .c (ptr g67 (o110 + k98 * 3)), .c (N3.val x109), .c (.bool (decide (((absR self X (aboveL Y X))[((k98 : Int)).toNat]?.getD default) = x109))), .c (.bool (decide (((absR self X (aboveL Y X))[((k98 : Int)).toNat]?.getD default) = x109))), .c (i64 (k98 : Int)), .c (i64 self), .c (.bool (decide ((k98 : Int) = self))), .c (.bool (decide ((k98 : Int) = self))), .n, .n, .n, .c (.bool false), .c (.bool false), .n, .n, .n, .n, .n, .n, .c (.bool false), .c (.bool false)] rfl mixed (by kernel_rfl) ?_
                    refine q_v (v := (N3.val ((absR self X (aboveL Y X))[((k98 : Int)).toNat]?.getD default))) (fun W hC => rn_lbN (vs := (N3.cells ((absR self X (aboveL Y X))[((k98 : Int)).toNat]?.getD default))) g28 rfl (hb104.ext0 hC) rfl rfl) ?_
                    refine q_v (v := (.slice A65 ((levelL ([Bok.mk p55 bb56 X, Bok.mk p58 bb59 Y])).length) c66)) (fun W hC => rn_mv rfl) ?_
                    refine q_v (v := (i64 (k98 : Int))) (fun W hC => rn_mv rfl) ?_
                    refine q_v (v := (ptr g67 (o110 + k98 * 3))) (fun W hC => rn_ie is22 rfl hA112 rfl (by omega) (by omega) rfl) ?_
                    refine q_v (v := (N3.val x109)) (fun W hC => rn_ldN (vs := (N3.cells x109)) g28 rfl rfl (el113.ext0 hC)) ?_
                    refine q_v (v := (.bool (decide (((absR self X (aboveL Y X))[((k98 : Int)).toNat]?.getD default) = x109)))) (fun W hC => eq28 (a := ((absR self X (aboveL Y X))[((k98 : Int)).toNat]?.getD default)) (b := x109) rfl rfl) ?_
                    refine q_v (v := (.bool (decide (((absR self X (aboveL Y X))[((k98 : Int)).toNat]?.getD default) = x109)))) (fun W hC => rn_mv rfl) ?_
                    refine ob_yes rfl rfl rfl h114 ?_
                    refine q_v (v := (i64 (k98 : Int))) (fun W hC => rn_mv rfl) ?_
                    refine ob_yes rfl rfl rfl h114 ?_
                    refine q_v (v := (i64 self)) (fun W hC => rn_mv rfl) ?_
                    refine ob_yes rfl rfl rfl h114 ?_
                    refine q_v (v := (.bool (decide ((k98 : Int) = self)))) (fun W hC => rn_eql (m := (k98 : Int)) (n := self) rfl rfl) ?_
                    refine ob_yes rfl rfl rfl h114 ?_
                    refine q_v (v := (.bool (decide ((k98 : Int) = self)))) (fun W hC => rn_mv rfl) ?_
                    refine ob_not rfl rfl rfl h121 ?_
                    refine ob_not rfl rfl rfl h121 ?_
                    refine ob_not rfl rfl rfl h121 ?_
                    refine ob_yes rfl rfl rfl h114 ?_
                    refine q_v (v := (.bool false)) (fun W hC => rn_pF (b := (decide ((k98 : Int) = self))) rfl h121 rfl) ?_
                    refine ob_yes rfl rfl rfl h114 ?_
                    refine q_v (v := (.bool false)) (fun W hC => rn_mv rfl) ?_
                    refine ob_not rfl rfl rfl rfl ?_
                    refine ob_not rfl rfl rfl rfl ?_
                    refine ob_not rfl rfl rfl rfl ?_
                    refine ob_not rfl rfl rfl rfl ?_
                    refine ob_not rfl rfl rfl rfl ?_
                    refine ob_not rfl rfl rfl rfl ?_
                    refine ob_yes rfl rfl rfl h114 ?_
                    refine q_v (v := (.bool false)) (fun W hC => rn_pF (b := false) rfl rfl rfl) ?_
                    refine q_v (v := (.bool false)) (fun W hC => rn_pF (b := (decide (((absR self X (aboveL Y X))[((k98 : Int)).toNat]?.getD default) = x109))) rfl h114 rfl) ?_
                    refine ob_end (fun w138 x139 he140 hap141 => ?_)
                    replace hE := hE.step0 x139
                    replace hb61 := hb61.ext0 x139
                    replace hb79 := hb79.ext0 x139
                    replace hb87 := hb87.ext0 x139
                    replace hb104 := hb104.ext0 x139
                    replace el113 := el113.ext0 x139
                    replace hl := hl.ext0 x139
                    replace hm := hm.ext0 x139
                    replace hB57 := hB57.ext0 x139
                    replace hB60 := hB60.ext0 x139
                    replace hl64 := hl64.ext0 x139
                    replace hl68 := hl68.ext0 x139
                    replace hl74 := hl74.ext0 x139
                    replace hl95 := hl95.ext0 x139
                    clear x139
                    refine w_end ?_
                    refine fr_eq (l' := (lk [(i64 n), (i64 self), (.slice A l.length c), (.slice B m.length c'), undef, undef, undef, undef, (z_k98 8), (ptr p55 0), (ptr p58 0), (.slice A65 ((levelL ([Bok.mk p55 bb56 X, Bok.mk p58 bb59 Y])).length) c66), (i64 0), (.slice A71 ((aboveL Y X).length) c72), (i64 0), (ptr b79 0), (i64 0), (ptr b87 0), (i64 (absE X (aboveL Y X))), (.slice A92 ((aboveL Y (absR self X (aboveL Y X))).length) c93), (i64 0), (i64 (k98 : Int)), (ptr b104 0), (i64 0), (i64 n), (.bool (decide (n < 1))), (.bool (decide (n < 1))), (i64 n), (.bool (decide (100 < n))), (.bool (decide (100 < n))), (.bool (decide (100 < n))), (i64 self), (.bool (decide (self < 0))), (.bool (decide (self < 0))), (.bool (decide (self < 0))), (i64 self), (i64 n), (.bool (decide (n ≤ self))), (.bool (decide (n ≤ self))), (.bool (decide (n ≤ self))), (.slice A l.length c), (.bool (decide ((l.length : Int) ≤ 300))), (.bool (!(decide ((l.length : Int) ≤ 300)))), (.bool (!(decide ((l.length : Int) ≤ 300)))), (.bool (!(decide ((l.length : Int) ≤ 300)))), (.slice B m.length c'), (.bool (decide ((m.length : Int) ≤ 300))), (.bool (!(decide ((m.length : Int) ≤ 300)))), (.bool (!(decide ((m.length : Int) ≤ 300)))), undef, (i64 n), (i64 self), (.slice A l.length c), (ptr p55 0), (i64 n), (i64 self), (i64 (self + 1)), (i64 n), (i64 s2), (.slice B m.length c'), (ptr p58 0), (.tuple #[(.slice A65 ((levelL ([Bok.mk p55 bb56 X, Bok.mk p58 bb59 Y])).length) c66), (i64 0)]), (ptr p55 0), (ptr p58 0), (.slice (some ⟨b61, 0, none⟩) 2 2), (.tuple #[(.slice A65 ((levelL ([Bok.mk p55 bb56 X, Bok.mk p58 bb59 Y])).length) c66), (i64 0)]), (.slice A65 ((levelL ([Bok.mk p55 bb56 X, Bok.mk p58 bb59 Y])).length) c66), (i64 0), (.tuple #[(.slice A71 ((aboveL Y X).length) c72), (i64 0)]), (ptr p58 0), (ptr p55 0), (.tuple #[(.slice A71 ((aboveL Y X).length) c72), (i64 0)]), (.slice A71 ((aboveL Y X).length) c72), (i64 0), (.tuple #[(N3.val (X[(self).toNat]?.getD default)), (i64 0)]), (ptr p55 0), (i64 self), (.tuple #[(N3.val (X[(self).toNat]?.getD default)), (i64 0)]), (N3.val (X[(self).toNat]?.getD default)), (i64 0), (.tuple #[(S4.val sA), (i64 (absE X (aboveL Y X)))]), (ptr p55 0), (i64 self), (.slice A71 ((aboveL Y X).length) c72), (.tuple #[(S4.val sA), (i64 (absE X (aboveL Y X)))]), (S4.val sA), (i64 (absE X (aboveL Y X))), (.tuple #[(.slice A92 ((aboveL Y (absR self X (aboveL Y X))).length) c93), (i64 0)]), (ptr p58 0), (ptr p55 0), (.tuple #[(.slice A92 ((aboveL Y (absR self X (aboveL Y X))).length) c93), (i64 0)]), (.slice A92 ((aboveL Y (absR self X (aboveL Y X))).length) c93), (i64 0), (i64 0), (.bool false), (.bool false), (i64 0), (.bool false), (.bool false), (.bool false), (i64 (absE X (aboveL Y X))), (.bool (decide (absE X (aboveL Y X) ≠ 0))), (.bool (decide (absE X (aboveL Y X) ≠ 0))), (.bool (decide (absE X (aboveL Y X) ≠ 0))), (i64 0), (.bool false), (.bool false), (.bool false), (.slice A65 ((levelL ([Bok.mk p55 bb56 X, Bok.mk p58 bb59 Y])).length) c66), (i64 ((levelL ([Bok.mk p55 bb56 X, Bok.mk p58 bb59 Y])).length : Int)), (i64 n), (.bool (decide (((levelL ([Bok.mk p55 bb56 X, Bok.mk p58 bb59 Y])).length : Int) ≠ n))), (.bool (decide (((levelL ([Bok.mk p55 bb56 X, Bok.mk p58 bb59 Y])).length : Int) ≠ n))), (i64 (k98 : Int)), (i64 n), (.bool (decide ((k98 : Int) < n))), (z_k98 116), (z_k98 117), (.tuple #[(N3.val ((absR self X (aboveL Y X))[((k98 : Int)).toNat]?.getD default)), (i64 0)]), (ptr p55 0), (i64 (k98 : Int)), (.tuple #[(N3.val ((absR self X (aboveL Y X))[((k98 : Int)).toNat]?.getD default)), (i64 0)]), (N3.val ((absR self X (aboveL Y X))[((k98 : Int)).toNat]?.getD default)), (i64 0), (N3.val ((absR self X (aboveL Y X))[((k98 : Int)).toNat]?.getD default)), (.slice A65 ((levelL ([Bok.mk p55 bb56 X, Bok.mk p58 bb59 Y])).length) c66), (i64 (k98 : Int)), (ptr g67 (o110 + k98 * 3)), (N3.val x109), (.bool (decide (((absR self X (aboveL Y X))[((k98 : Int)).toNat]?.getD default) = x109))), (.bool (decide (((absR self X (aboveL Y X))[((k98 : Int)).toNat]?.getD default) = x109))), (i64 (k98 : Int)), (i64 self), (.bool (decide ((k98 : Int) = self))), (.bool (decide ((k98 : Int) = self))), undef, undef, undef, (.bool false), (.bool false), undef, undef, undef, undef, undef, undef, (.bool false), (.bool false), undef, undef, undef, undef, undef, undef, undef, undef, undef, undef, undef, undef, undef, undef, undef, undef, undef, undef, undef, undef, undef, undef, undef, undef, undef, undef])) (by kernel_rfl) ?_
                    refine c_F (b := false) rfl rfl ?_
                    refine c_skip' ?_
                    refine t_norm ?_
                    refine c_rs ?_
                    refine s1 (v := (.bool false)) (rn_as rfl) ?_
                    refine w_end ?_
                    refine c_ret ?_
                    refine b_ret ?_
                    refine t_ret ?_
                    refine t_ret ?_
                    refine b_ret ?_
                    refine t_ret ?_
                    refine bp_ret (rs1 rfl (rv_tmp (v := (.bool false)) rfl)) ?_
                    exfalso
                    have hxk : X[k98]? = some X[k98] := List.getElem?_eq_getElem (by omega)
                    have hyk : Y[k98]? = some Y[k98] := List.getElem?_eq_getElem (by omega)
                    have hak : (absR self X (aboveL Y X))[k98]? = some ((absR self X (aboveL Y X))[k98]?.getD default) := by rw [List.getElem?_eq_getElem (by omega)]; rfl
                    have hml := meets_law (self := self) gX gY lX lY (by omega) hxk hyk hak hx111
                    -- decide (n < 1) False h1
                    -- decide (100 < n) False h6
                    -- decide (self < 0) False h11
                    -- decide (n ≤ self) False h16
                    -- (!(decide ((l.length : Int) ≤ 300))) False h23
                    -- (decide ((l.length : Int) ≤ 300)) True h28
                    -- (!(decide ((m.length : Int) ≤ 300))) False h32
                    -- (decide ((m.length : Int) ≤ 300)) True h37
                    -- decide ((k98 : Int) < n) True h100
                    -- decide (((absR self X (aboveL Y X))[((k98 : Int)).toNat]?.getD default) = x109) False h114
                    -- decide ((k98 : Int) = self) False h121
                    rcases hml with h_ | ⟨h1_, h2_, h3_⟩
                    · exact of_decide_eq_false h114 h_
                    · exact of_decide_eq_false h121 h1_
              ·
                have p142 := of_decide_eq_false h100
                refine c_exit ?_
                refine t_exit ?_
                refine t_exit ?_
                refine b_here ?_
                refine t_norm ?_
                refine c_rs ?_
                rcases hr with hr | ⟨z, hr, hz1, hz2⟩
                ·
                  refine s_callP e20 (v := (.bool true)) (vs := []) rfl (alive_c) (fun w143 x144 => ?_)
                  replace hE := hE.step0 x144
                  replace hb61 := hb61.ext0 x144
                  replace hb79 := hb79.ext0 x144
                  replace hb87 := hb87.ext0 x144
                  replace hl := hl.ext0 x144
                  replace hm := hm.ext0 x144
                  replace hB57 := hB57.ext0 x144
                  replace hB60 := hB60.ext0 x144
                  replace hl64 := hl64.ext0 x144
                  replace hl68 := hl68.ext0 x144
                  replace hl74 := hl74.ext0 x144
                  replace hl95 := hl95.ext0 x144
                  clear x144
                  refine s1 (v := (.bool true)) (rn_mv rfl) ?_
                  refine g_yes rfl rfl rfl rfl ?_
                  refine s1 (v := (.slice A92 ((aboveL Y (absR self X (aboveL Y X))).length) c93)) (rn_mv rfl) ?_
                  refine g_yes rfl rfl rfl rfl ?_
                  refine s1 (v := (i64 ((aboveL Y (absR self X (aboveL Y X))).length : Int))) (rn_len is22 rfl) ?_
                  refine g_yes rfl rfl rfl rfl ?_
                  refine s1 (v := (.bool (decide (((aboveL Y (absR self X (aboveL Y X))).length : Int) = 0)))) (rn_eql (m := ((aboveL Y (absR self X (aboveL Y X))).length : Int)) (n := 0) rfl rfl) ?_
                  refine g_yes rfl rfl rfl rfl ?_
                  refine s1 (v := (.bool (decide (((aboveL Y (absR self X (aboveL Y X))).length : Int) = 0)))) (rn_mv rfl) ?_
                  refine g_not rfl rfl rfl (decide_eq_true (by rw [hr]; rfl)) ?_
                  refine g_not rfl rfl rfl (decide_eq_true (by rw [hr]; rfl)) ?_
                  refine g_not rfl rfl rfl (decide_eq_true (by rw [hr]; rfl)) ?_
                  refine g_not rfl rfl rfl (decide_eq_true (by rw [hr]; rfl)) ?_
                  refine g_un rfl rfl rfl ?_
                  refine g_un rfl rfl rfl ?_
                  refine g_un rfl rfl rfl ?_
                  refine g_un rfl rfl rfl ?_
                  refine g_un rfl rfl rfl ?_
                  refine g_un rfl rfl rfl ?_
                  refine g_not rfl rfl rfl (decide_eq_true (by rw [hr]; rfl)) ?_
                  refine g_not rfl rfl rfl (decide_eq_true (by rw [hr]; rfl)) ?_
                  refine g_un rfl rfl rfl ?_
                  refine g_un rfl rfl rfl ?_
                  refine g_un rfl rfl rfl ?_
                  refine g_un rfl rfl rfl ?_
                  refine g_un rfl rfl rfl ?_
                  refine g_not rfl rfl rfl (decide_eq_true (by rw [hr]; rfl)) ?_
                  refine g_yes rfl rfl rfl rfl ?_
                  refine s1 (v := (.bool true)) (rn_pT (b := (decide (((aboveL Y (absR self X (aboveL Y X))).length : Int) = 0))) rfl (decide_eq_true (by rw [hr]; rfl)) rfl) ?_
                  refine s1 (v := (.bool true)) (rn_pT (b := true) rfl rfl rfl) ?_
                  refine s1 (v := (.bool true)) (rn_as rfl) ?_
                  refine w_end ?_
                  refine fr_eq (l' := (lk [(i64 n), (i64 self), (.slice A l.length c), (.slice B m.length c'), undef, undef, undef, undef, (.bool true), (ptr p55 0), (ptr p58 0), (.slice A65 ((levelL ([Bok.mk p55 bb56 X, Bok.mk p58 bb59 Y])).length) c66), (i64 0), (.slice A71 ((aboveL Y X).length) c72), (i64 0), (ptr b79 0), (i64 0), (ptr b87 0), (i64 (absE X (aboveL Y X))), (.slice A92 ((aboveL Y (absR self X (aboveL Y X))).length) c93), (i64 0), (i64 (k98 : Int)), (z_k98 22), (z_k98 23), (i64 n), (.bool (decide (n < 1))), (.bool (decide (n < 1))), (i64 n), (.bool (decide (100 < n))), (.bool (decide (100 < n))), (.bool (decide (100 < n))), (i64 self), (.bool (decide (self < 0))), (.bool (decide (self < 0))), (.bool (decide (self < 0))), (i64 self), (i64 n), (.bool (decide (n ≤ self))), (.bool (decide (n ≤ self))), (.bool (decide (n ≤ self))), (.slice A l.length c), (.bool (decide ((l.length : Int) ≤ 300))), (.bool (!(decide ((l.length : Int) ≤ 300)))), (.bool (!(decide ((l.length : Int) ≤ 300)))), (.bool (!(decide ((l.length : Int) ≤ 300)))), (.slice B m.length c'), (.bool (decide ((m.length : Int) ≤ 300))), (.bool (!(decide ((m.length : Int) ≤ 300)))), (.bool (!(decide ((m.length : Int) ≤ 300)))), undef, (i64 n), (i64 self), (.slice A l.length c), (ptr p55 0), (i64 n), (i64 self), (i64 (self + 1)), (i64 n), (i64 s2), (.slice B m.length c'), (ptr p58 0), (.tuple #[(.slice A65 ((levelL ([Bok.mk p55 bb56 X, Bok.mk p58 bb59 Y])).length) c66), (i64 0)]), (ptr p55 0), (ptr p58 0), (.slice (some ⟨b61, 0, none⟩) 2 2), (.tuple #[(.slice A65 ((levelL ([Bok.mk p55 bb56 X, Bok.mk p58 bb59 Y])).length) c66), (i64 0)]), (.slice A65 ((levelL ([Bok.mk p55 bb56 X, Bok.mk p58 bb59 Y])).length) c66), (i64 0), (.tuple #[(.slice A71 ((aboveL Y X).length) c72), (i64 0)]), (ptr p58 0), (ptr p55 0), (.tuple #[(.slice A71 ((aboveL Y X).length) c72), (i64 0)]), (.slice A71 ((aboveL Y X).length) c72), (i64 0), (.tuple #[(N3.val (X[(self).toNat]?.getD default)), (i64 0)]), (ptr p55 0), (i64 self), (.tuple #[(N3.val (X[(self).toNat]?.getD default)), (i64 0)]), (N3.val (X[(self).toNat]?.getD default)), (i64 0), (.tuple #[(S4.val sA), (i64 (absE X (aboveL Y X)))]), (ptr p55 0), (i64 self), (.slice A71 ((aboveL Y X).length) c72), (.tuple #[(S4.val sA), (i64 (absE X (aboveL Y X)))]), (S4.val sA), (i64 (absE X (aboveL Y X))), (.tuple #[(.slice A92 ((aboveL Y (absR self X (aboveL Y X))).length) c93), (i64 0)]), (ptr p58 0), (ptr p55 0), (.tuple #[(.slice A92 ((aboveL Y (absR self X (aboveL Y X))).length) c93), (i64 0)]), (.slice A92 ((aboveL Y (absR self X (aboveL Y X))).length) c93), (i64 0), (i64 0), (.bool false), (.bool false), (i64 0), (.bool false), (.bool false), (.bool false), (i64 (absE X (aboveL Y X))), (.bool (decide (absE X (aboveL Y X) ≠ 0))), (.bool (decide (absE X (aboveL Y X) ≠ 0))), (.bool (decide (absE X (aboveL Y X) ≠ 0))), (i64 0), (.bool false), (.bool false), (.bool false), (.slice A65 ((levelL ([Bok.mk p55 bb56 X, Bok.mk p58 bb59 Y])).length) c66), (i64 ((levelL ([Bok.mk p55 bb56 X, Bok.mk p58 bb59 Y])).length : Int)), (i64 n), (.bool (decide (((levelL ([Bok.mk p55 bb56 X, Bok.mk p58 bb59 Y])).length : Int) ≠ n))), (.bool (decide (((levelL ([Bok.mk p55 bb56 X, Bok.mk p58 bb59 Y])).length : Int) ≠ n))), (i64 (k98 : Int)), (i64 n), (.bool (decide ((k98 : Int) < n))), (z_k98 116), (z_k98 117), (z_k98 118), (z_k98 119), (z_k98 120), (z_k98 121), (z_k98 122), (z_k98 123), (z_k98 124), (z_k98 125), (z_k98 126), (z_k98 127), (z_k98 128), (z_k98 129), (z_k98 130), (z_k98 131), (z_k98 132), (z_k98 133), (z_k98 134), (z_k98 135), (z_k98 136), (z_k98 137), (z_k98 138), (z_k98 139), (z_k98 140), (z_k98 141), (z_k98 142), (z_k98 143), (z_k98 144), (z_k98 145), (z_k98 146), (z_k98 147), (.bool true), (.bool true), (.slice A92 ((aboveL Y (absR self X (aboveL Y X))).length) c93), (i64 ((aboveL Y (absR self X (aboveL Y X))).length : Int)), (.bool (decide (((aboveL Y (absR self X (aboveL Y X))).length : Int) = 0))), (.bool (decide (((aboveL Y (absR self X (aboveL Y X))).length : Int) = 0))), undef, undef, undef, undef, undef, undef, undef, undef, undef, undef, undef, undef, undef, undef, undef, undef, undef, undef, (.bool true), (.bool true)])) (by kernel_rfl) ?_
                  refine c_ret ?_
                  refine bp_ret (rs1 rfl (rv_tmp (v := (.bool true)) rfl)) ?_
                  exact ⟨rfl, hE⟩
                ·
                  have hr1 : (aboveL Y (absR self X (aboveL Y X))).length = 1 := by rw [hr]; rfl
                  refine s_callP e20 (v := (.bool true)) (vs := []) rfl (alive_c) (fun w145 x146 => ?_)
                  replace hE := hE.step0 x146
                  replace hb61 := hb61.ext0 x146
                  replace hb79 := hb79.ext0 x146
                  replace hb87 := hb87.ext0 x146
                  replace hl := hl.ext0 x146
                  replace hm := hm.ext0 x146
                  replace hB57 := hB57.ext0 x146
                  replace hB60 := hB60.ext0 x146
                  replace hl64 := hl64.ext0 x146
                  replace hl68 := hl68.ext0 x146
                  replace hl74 := hl74.ext0 x146
                  replace hl95 := hl95.ext0 x146
                  clear x146
                  refine s1 (v := (.bool true)) (rn_mv rfl) ?_
                  refine g_yes rfl rfl rfl rfl ?_
                  refine s1 (v := (.slice A92 ((aboveL Y (absR self X (aboveL Y X))).length) c93)) (rn_mv rfl) ?_
                  refine g_yes rfl rfl rfl rfl ?_
                  refine s1 (v := (i64 ((aboveL Y (absR self X (aboveL Y X))).length : Int))) (rn_len is22 rfl) ?_
                  refine g_yes rfl rfl rfl rfl ?_
                  refine s1 (v := (.bool (decide (((aboveL Y (absR self X (aboveL Y X))).length : Int) = 0)))) (rn_eql (m := ((aboveL Y (absR self X (aboveL Y X))).length : Int)) (n := 0) rfl rfl) ?_
                  refine g_yes rfl rfl rfl rfl ?_
                  refine s1 (v := (.bool (decide (((aboveL Y (absR self X (aboveL Y X))).length : Int) = 0)))) (rn_mv rfl) ?_
                  refine g_yes rfl rfl rfl (decide_eq_false (by rw [hr]; simp)) ?_
                  refine s1 (v := (.slice A92 ((aboveL Y (absR self X (aboveL Y X))).length) c93)) (rn_mv rfl) ?_
                  refine g_yes rfl rfl rfl (decide_eq_false (by rw [hr]; simp)) ?_
                  refine s1 (v := (i64 ((aboveL Y (absR self X (aboveL Y X))).length : Int))) (rn_len is22 rfl) ?_
                  refine g_yes rfl rfl rfl (decide_eq_false (by rw [hr]; simp)) ?_
                  refine s1 (v := (.bool (decide (((aboveL Y (absR self X (aboveL Y X))).length : Int) = 1)))) (rn_eql (m := ((aboveL Y (absR self X (aboveL Y X))).length : Int)) (n := 1) rfl rfl) ?_
                  refine g_yes rfl rfl rfl (decide_eq_false (by rw [hr]; simp)) ?_
                  refine s1 (v := (.bool (decide (((aboveL Y (absR self X (aboveL Y X))).length : Int) = 1)))) (rn_mv rfl) ?_
                  refine g_yes rfl rfl rfl (decide_eq_true (by rw [hr]; rfl)) ?_
                  refine s1 (v := (.slice A92 ((aboveL Y (absR self X (aboveL Y X))).length) c93)) (rn_mv rfl) ?_
                  refine g_yes rfl rfl rfl (decide_eq_true (by rw [hr]; rfl)) ?_
                  obtain ⟨x147, o148, hx149, hA150, el151⟩ := hl95.el (k := 0) (by omega)
                  refine s1 (v := (ptr g94 (o148 + 0 * 3))) (rn_ie is22 rfl hA150 rfl (by omega) (by omega) rfl) ?_
                  refine g_yes rfl rfl rfl (decide_eq_true (by rw [hr]; rfl)) ?_
                  refine s1 (v := (ptr g94 (o148 + 0 * 3))) (rn_fa fa28_0 rfl rfl) ?_
                  refine g_yes rfl rfl rfl (decide_eq_true (by rw [hr]; rfl)) ?_
                  refine s1 (v := (i64 x147.of)) (rn_ld1 o3 rfl (el151 0 _ rfl)) ?_
                  refine g_yes rfl rfl rfl (decide_eq_true (by rw [hr]; rfl)) ?_
                  refine s1 (v := (i64 self)) (rn_mv rfl) ?_
                  refine g_yes rfl rfl rfl (decide_eq_true (by rw [hr]; rfl)) ?_
                  refine s1 (v := (.bool (decide (x147.of = self)))) (rn_eql (m := x147.of) (n := self) rfl rfl) ?_
                  refine g_yes rfl rfl rfl (decide_eq_false (by rw [hr]; simp)) ?_
                  refine s1 (v := (.bool (decide (x147.of = self)))) (rn_pT (b := (decide (((aboveL Y (absR self X (aboveL Y X))).length : Int) = 1))) rfl (decide_eq_true (by rw [hr]; rfl)) rfl) ?_
                  refine g_yes rfl rfl rfl (decide_eq_false (by rw [hr]; simp)) ?_
                  refine s1 (v := (.bool (decide (x147.of = self)))) (rn_mv rfl) ?_
                  refine g_yes rfl rfl rfl (decide_eq_true (by have h_ := hx149; rw [hr] at h_; cases h_; exact hz1)) ?_
                  refine s1 (v := (.slice A92 ((aboveL Y (absR self X (aboveL Y X))).length) c93)) (rn_mv rfl) ?_
                  refine g_yes rfl rfl rfl (decide_eq_true (by have h_ := hx149; rw [hr] at h_; cases h_; exact hz1)) ?_
                  refine s1 (v := (ptr g94 (o148 + 0 * 3))) (rn_ie is22 rfl hA150 rfl (by omega) (by omega) rfl) ?_
                  refine g_yes rfl rfl rfl (decide_eq_true (by have h_ := hx149; rw [hr] at h_; cases h_; exact hz1)) ?_
                  refine s1 (v := (ptr g94 ((o148 + 0 * 3) + 2))) (rn_fa fa28_2 rfl rfl) ?_
                  refine g_yes rfl rfl rfl (decide_eq_true (by have h_ := hx149; rw [hr] at h_; cases h_; exact hz1)) ?_
                  refine s1 (v := (i64 x147.kind)) (rn_ld1 o3 rfl (el151 2 _ rfl)) ?_
                  refine g_yes rfl rfl rfl (decide_eq_true (by have h_ := hx149; rw [hr] at h_; cases h_; exact hz1)) ?_
                  refine s1 (v := (.bool (decide (x147.kind = 1)))) (rn_eql (m := x147.kind) (n := 1) rfl rfl) ?_
                  refine g_yes rfl rfl rfl (decide_eq_false (by rw [hr]; simp)) ?_
                  refine s1 (v := (.bool (decide (x147.kind = 1)))) (rn_pT (b := (decide (x147.of = self))) rfl (decide_eq_true (by have h_ := hx149; rw [hr] at h_; cases h_; exact hz1)) rfl) ?_
                  refine g_yes rfl rfl rfl rfl ?_
                  refine s1 (v := (.bool (decide (x147.kind = 1)))) (rn_pF (b := (decide (((aboveL Y (absR self X (aboveL Y X))).length : Int) = 0))) rfl (decide_eq_false (by rw [hr]; simp)) rfl) ?_
                  refine s1 (v := (.bool (decide (x147.kind = 1)))) (rn_pT (b := true) rfl rfl rfl) ?_
                  refine s1 (v := (.bool (decide (x147.kind = 1)))) (rn_as rfl) ?_
                  refine w_end ?_
                  refine fr_eq (l' := (lk [(i64 n), (i64 self), (.slice A l.length c), (.slice B m.length c'), undef, undef, undef, undef, (.bool (decide (x147.kind = 1))), (ptr p55 0), (ptr p58 0), (.slice A65 ((levelL ([Bok.mk p55 bb56 X, Bok.mk p58 bb59 Y])).length) c66), (i64 0), (.slice A71 ((aboveL Y X).length) c72), (i64 0), (ptr b79 0), (i64 0), (ptr b87 0), (i64 (absE X (aboveL Y X))), (.slice A92 ((aboveL Y (absR self X (aboveL Y X))).length) c93), (i64 0), (i64 (k98 : Int)), (z_k98 22), (z_k98 23), (i64 n), (.bool (decide (n < 1))), (.bool (decide (n < 1))), (i64 n), (.bool (decide (100 < n))), (.bool (decide (100 < n))), (.bool (decide (100 < n))), (i64 self), (.bool (decide (self < 0))), (.bool (decide (self < 0))), (.bool (decide (self < 0))), (i64 self), (i64 n), (.bool (decide (n ≤ self))), (.bool (decide (n ≤ self))), (.bool (decide (n ≤ self))), (.slice A l.length c), (.bool (decide ((l.length : Int) ≤ 300))), (.bool (!(decide ((l.length : Int) ≤ 300)))), (.bool (!(decide ((l.length : Int) ≤ 300)))), (.bool (!(decide ((l.length : Int) ≤ 300)))), (.slice B m.length c'), (.bool (decide ((m.length : Int) ≤ 300))), (.bool (!(decide ((m.length : Int) ≤ 300)))), (.bool (!(decide ((m.length : Int) ≤ 300)))), undef, (i64 n), (i64 self), (.slice A l.length c), (ptr p55 0), (i64 n), (i64 self), (i64 (self + 1)), (i64 n), (i64 s2), (.slice B m.length c'), (ptr p58 0), (.tuple #[(.slice A65 ((levelL ([Bok.mk p55 bb56 X, Bok.mk p58 bb59 Y])).length) c66), (i64 0)]), (ptr p55 0), (ptr p58 0), (.slice (some ⟨b61, 0, none⟩) 2 2), (.tuple #[(.slice A65 ((levelL ([Bok.mk p55 bb56 X, Bok.mk p58 bb59 Y])).length) c66), (i64 0)]), (.slice A65 ((levelL ([Bok.mk p55 bb56 X, Bok.mk p58 bb59 Y])).length) c66), (i64 0), (.tuple #[(.slice A71 ((aboveL Y X).length) c72), (i64 0)]), (ptr p58 0), (ptr p55 0), (.tuple #[(.slice A71 ((aboveL Y X).length) c72), (i64 0)]), (.slice A71 ((aboveL Y X).length) c72), (i64 0), (.tuple #[(N3.val (X[(self).toNat]?.getD default)), (i64 0)]), (ptr p55 0), (i64 self), (.tuple #[(N3.val (X[(self).toNat]?.getD default)), (i64 0)]), (N3.val (X[(self).toNat]?.getD default)), (i64 0), (.tuple #[(S4.val sA), (i64 (absE X (aboveL Y X)))]), (ptr p55 0), (i64 self), (.slice A71 ((aboveL Y X).length) c72), (.tuple #[(S4.val sA), (i64 (absE X (aboveL Y X)))]), (S4.val sA), (i64 (absE X (aboveL Y X))), (.tuple #[(.slice A92 ((aboveL Y (absR self X (aboveL Y X))).length) c93), (i64 0)]), (ptr p58 0), (ptr p55 0), (.tuple #[(.slice A92 ((aboveL Y (absR self X (aboveL Y X))).length) c93), (i64 0)]), (.slice A92 ((aboveL Y (absR self X (aboveL Y X))).length) c93), (i64 0), (i64 0), (.bool false), (.bool false), (i64 0), (.bool false), (.bool false), (.bool false), (i64 (absE X (aboveL Y X))), (.bool (decide (absE X (aboveL Y X) ≠ 0))), (.bool (decide (absE X (aboveL Y X) ≠ 0))), (.bool (decide (absE X (aboveL Y X) ≠ 0))), (i64 0), (.bool false), (.bool false), (.bool false), (.slice A65 ((levelL ([Bok.mk p55 bb56 X, Bok.mk p58 bb59 Y])).length) c66), (i64 ((levelL ([Bok.mk p55 bb56 X, Bok.mk p58 bb59 Y])).length : Int)), (i64 n), (.bool (decide (((levelL ([Bok.mk p55 bb56 X, Bok.mk p58 bb59 Y])).length : Int) ≠ n))), (.bool (decide (((levelL ([Bok.mk p55 bb56 X, Bok.mk p58 bb59 Y])).length : Int) ≠ n))), (i64 (k98 : Int)), (i64 n), (.bool (decide ((k98 : Int) < n))), (z_k98 116), (z_k98 117), (z_k98 118), (z_k98 119), (z_k98 120), (z_k98 121), (z_k98 122), (z_k98 123), (z_k98 124), (z_k98 125), (z_k98 126), (z_k98 127), (z_k98 128), (z_k98 129), (z_k98 130), (z_k98 131), (z_k98 132), (z_k98 133), (z_k98 134), (z_k98 135), (z_k98 136), (z_k98 137), (z_k98 138), (z_k98 139), (z_k98 140), (z_k98 141), (z_k98 142), (z_k98 143), (z_k98 144), (z_k98 145), (z_k98 146), (z_k98 147), (.bool true), (.bool true), (.slice A92 ((aboveL Y (absR self X (aboveL Y X))).length) c93), (i64 ((aboveL Y (absR self X (aboveL Y X))).length : Int)), (.bool (decide (((aboveL Y (absR self X (aboveL Y X))).length : Int) = 0))), (.bool (decide (((aboveL Y (absR self X (aboveL Y X))).length : Int) = 0))), (.slice A92 ((aboveL Y (absR self X (aboveL Y X))).length) c93), (i64 ((aboveL Y (absR self X (aboveL Y X))).length : Int)), (.bool (decide (((aboveL Y (absR self X (aboveL Y X))).length : Int) = 1))), (.bool (decide (((aboveL Y (absR self X (aboveL Y X))).length : Int) = 1))), (.slice A92 ((aboveL Y (absR self X (aboveL Y X))).length) c93), (ptr g94 (o148 + 0 * 3)), (ptr g94 (o148 + 0 * 3)), (i64 x147.of), (i64 self), (.bool (decide (x147.of = self))), (.bool (decide (x147.of = self))), (.bool (decide (x147.of = self))), (.slice A92 ((aboveL Y (absR self X (aboveL Y X))).length) c93), (ptr g94 (o148 + 0 * 3)), (ptr g94 ((o148 + 0 * 3) + 2)), (i64 x147.kind), (.bool (decide (x147.kind = 1))), (.bool (decide (x147.kind = 1))), (.bool (decide (x147.kind = 1))), (.bool (decide (x147.kind = 1)))])) (by kernel_rfl) ?_
                  refine c_ret ?_
                  refine bp_ret (rs1 rfl (rv_tmp (v := (.bool (decide (x147.kind = 1)))) rfl)) ?_
                  rw [hr] at hx149; cases hx149
                  exact ⟨by rw [hz2]; rfl, hE⟩

end Go.Proofs.Ytfdffeameoejfaa
