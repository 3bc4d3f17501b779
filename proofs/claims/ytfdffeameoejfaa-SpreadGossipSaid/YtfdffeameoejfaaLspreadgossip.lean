/- lspreadgossip: printed walks. -/
import Derived.Test.YtfdffeameoejfaaLaw16
import Derived.Test.YtfdffeameoejfaaPGossip
import Derived.Test.YtfdffeameoejfaaEbook
namespace Go.Proofs.Ytfdffeameoejfaa
open Go Go.RowKit
set_option linter.unusedVariables false
set_option linter.unusedSimpArgs false

set_option maxHeartbeats 800000 in
theorem SpreadGossip_w {A : Option Addr} {gl c : Nat} {qs : List (SLs N3)} {w0 : World} (n : Int) (hl : Ls SLs.cells 1 w0 gl A qs) (hml : qs.length ≤ 9223372036854775807) (hL : Lls N3.cells 3 w0 qs) (hLm : ∀ q ∈ qs, q.xs.length ≤ 9223372036854775807) :
    Calls Try.prog 12 [(i64 n), (.slice A qs.length c)].toArray w0 (Ret (fun v w' => v = .bool true ∧ Ext [] w0 w')) := by
  have hE : Ext [] w0 w0 := (Ext.refl w0).more (by simp)
  have hgl := hl.lt (by simp)
  have hLlt := hL.lt (by simp)
  refine enter (vs := [(i64 n), (.slice A qs.length c)]) Try.func12 rfl Try.ntmps12 rfl ?_
  refine c_rs ?_
  refine s1 (v := (.bool false)) (rn_as rfl) ?_
  refine w_end ?_
  refine c_rs ?_
  refine s1 (v := (.slice A qs.length c)) (rn_mv rfl) ?_
  refine s1 (v := (i64 (qs.length : Int))) (rn_len is92 rfl) ?_
  refine s1 (v := (i64 (qs.length : Int))) (rn_as rfl) ?_
  refine w_end ?_
  refine c_seq ?_
  refine c_rs ?_
  refine s1 (v := (i64 n)) (rn_mv rfl) ?_
  refine s1 (v := (.bool (decide (n < 1)))) (rn_lss (m := n) (n := 1) rfl rfl) ?_
  refine s1 (v := (.bool (decide (n < 1)))) (rn_mv rfl) ?_
  rcases Bool.eq_false_or_eq_true (decide (n < 1)) with h1 | h1
  ·
    have p2 := of_decide_eq_true h1
    refine g_not rfl rfl rfl h1 ?_
    refine g_not rfl rfl rfl h1 ?_
    refine s1 (v := (.bool true)) (rn_pT (b := (decide (n < 1))) rfl h1 rfl) ?_
    refine s1 (v := (.bool true)) (rn_mv rfl) ?_
    refine g_not rfl rfl rfl rfl ?_
    refine g_not rfl rfl rfl rfl ?_
    refine s1 (v := (.bool true)) (rn_pT (b := true) rfl rfl rfl) ?_
    refine s1 (v := (.bool true)) (rn_mv rfl) ?_
    refine g_not rfl rfl rfl rfl ?_
    refine g_not rfl rfl rfl rfl ?_
    refine s1 (v := (.bool true)) (rn_pT (b := true) rfl rfl rfl) ?_
    refine s1 (v := (.bool true)) (rn_mv rfl) ?_
    refine g_not rfl rfl rfl rfl ?_
    refine g_not rfl rfl rfl rfl ?_
    refine g_not rfl rfl rfl rfl ?_
    refine s1 (v := (.bool true)) (rn_pT (b := true) rfl rfl rfl) ?_
    refine w_end ?_
    refine c_T (b := true) rfl rfl ?_
    refine c_rs ?_
    refine s_callP e20 (v := (.bool true)) (vs := []) rfl (alive_c) (fun w3 x4 => ?_)
    replace hE := hE.step0 x4
    replace hl := hl.ext0 x4
    replace hL := hL.ext0 x4
    clear x4
    refine s1 (v := (.bool true)) (rn_as rfl) ?_
    refine w_end ?_
    refine c_ret ?_
    refine t_ret ?_
    refine bp_ret (rs1 rfl (rv_tmp (v := (.bool true)) rfl)) ?_
    exact ⟨rfl, hE⟩
  ·
    have p5 := of_decide_eq_false h1
    refine g_yes rfl rfl rfl h1 ?_
    refine s1 (v := (i64 n)) (rn_mv rfl) ?_
    refine g_yes rfl rfl rfl h1 ?_
    refine s1 (v := (.bool (decide (30 < n)))) (rn_gtr (m := n) (n := 30) rfl rfl) ?_
    refine s1 (v := (.bool (decide (30 < n)))) (rn_pF (b := (decide (n < 1))) rfl h1 rfl) ?_
    refine s1 (v := (.bool (decide (30 < n)))) (rn_mv rfl) ?_
    rcases Bool.eq_false_or_eq_true (decide (30 < n)) with h6 | h6
    ·
      have p7 := of_decide_eq_true h6
      refine g_not rfl rfl rfl h6 ?_
      refine g_not rfl rfl rfl h6 ?_
      refine s1 (v := (.bool true)) (rn_pT (b := (decide (30 < n))) rfl h6 rfl) ?_
      refine s1 (v := (.bool true)) (rn_mv rfl) ?_
      refine g_not rfl rfl rfl rfl ?_
      refine g_not rfl rfl rfl rfl ?_
      refine s1 (v := (.bool true)) (rn_pT (b := true) rfl rfl rfl) ?_
      refine s1 (v := (.bool true)) (rn_mv rfl) ?_
      refine g_not rfl rfl rfl rfl ?_
      refine g_not rfl rfl rfl rfl ?_
      refine g_not rfl rfl rfl rfl ?_
      refine s1 (v := (.bool true)) (rn_pT (b := true) rfl rfl rfl) ?_
      refine w_end ?_
      refine c_T (b := true) rfl rfl ?_
      refine c_rs ?_
      refine s_callP e20 (v := (.bool true)) (vs := []) rfl (alive_c) (fun w8 x9 => ?_)
      replace hE := hE.step0 x9
      replace hl := hl.ext0 x9
      replace hL := hL.ext0 x9
      clear x9
      refine s1 (v := (.bool true)) (rn_as rfl) ?_
      refine w_end ?_
      refine c_ret ?_
      refine t_ret ?_
      refine bp_ret (rs1 rfl (rv_tmp (v := (.bool true)) rfl)) ?_
      exact ⟨rfl, hE⟩
    ·
      have p10 := of_decide_eq_false h6
      refine g_yes rfl rfl rfl h6 ?_
      refine s1 (v := (i64 (qs.length : Int))) (rn_mv rfl) ?_
      refine g_yes rfl rfl rfl h6 ?_
      refine s1 (v := (.bool (decide ((qs.length : Int) < 1)))) (rn_lss (m := (qs.length : Int)) (n := 1) rfl rfl) ?_
      refine s1 (v := (.bool (decide ((qs.length : Int) < 1)))) (rn_pF (b := (decide (30 < n))) rfl h6 rfl) ?_
      refine s1 (v := (.bool (decide ((qs.length : Int) < 1)))) (rn_mv rfl) ?_
      rcases Bool.eq_false_or_eq_true (decide ((qs.length : Int) < 1)) with h11 | h11
      ·
        have p12 := of_decide_eq_true h11
        refine g_not rfl rfl rfl h11 ?_
        refine g_not rfl rfl rfl h11 ?_
        refine s1 (v := (.bool true)) (rn_pT (b := (decide ((qs.length : Int) < 1))) rfl h11 rfl) ?_
        refine s1 (v := (.bool true)) (rn_mv rfl) ?_
        refine g_not rfl rfl rfl rfl ?_
        refine g_not rfl rfl rfl rfl ?_
        refine g_not rfl rfl rfl rfl ?_
        refine s1 (v := (.bool true)) (rn_pT (b := true) rfl rfl rfl) ?_
        refine w_end ?_
        refine c_T (b := true) rfl rfl ?_
        refine c_rs ?_
        refine s_callP e20 (v := (.bool true)) (vs := []) rfl (alive_c) (fun w13 x14 => ?_)
        replace hE := hE.step0 x14
        replace hl := hl.ext0 x14
        replace hL := hL.ext0 x14
        clear x14
        refine s1 (v := (.bool true)) (rn_as rfl) ?_
        refine w_end ?_
        refine c_ret ?_
        refine t_ret ?_
        refine bp_ret (rs1 rfl (rv_tmp (v := (.bool true)) rfl)) ?_
        exact ⟨rfl, hE⟩
      ·
        have p15 := of_decide_eq_false h11
        refine g_yes rfl rfl rfl h11 ?_
        refine s1 (v := (i64 (qs.length : Int))) (rn_mv rfl) ?_
        refine g_yes rfl rfl rfl h11 ?_
        refine s1 (v := (.bool (decide (6 < (qs.length : Int))))) (rn_gtr (m := (qs.length : Int)) (n := 6) rfl rfl) ?_
        refine s1 (v := (.bool (decide (6 < (qs.length : Int))))) (rn_pF (b := (decide ((qs.length : Int) < 1))) rfl h11 rfl) ?_
        refine s1 (v := (.bool (decide (6 < (qs.length : Int))))) (rn_mv rfl) ?_
        rcases Bool.eq_false_or_eq_true (decide (6 < (qs.length : Int))) with h16 | h16
        ·
          have p17 := of_decide_eq_true h16
          refine g_not rfl rfl rfl h16 ?_
          refine g_not rfl rfl rfl h16 ?_
          refine g_not rfl rfl rfl h16 ?_
          refine s1 (v := (.bool true)) (rn_pT (b := (decide (6 < (qs.length : Int)))) rfl h16 rfl) ?_
          refine w_end ?_
          refine c_T (b := true) rfl rfl ?_
          refine c_rs ?_
          refine s_callP e20 (v := (.bool true)) (vs := []) rfl (alive_c) (fun w18 x19 => ?_)
          replace hE := hE.step0 x19
          replace hl := hl.ext0 x19
          replace hL := hL.ext0 x19
          clear x19
          refine s1 (v := (.bool true)) (rn_as rfl) ?_
          refine w_end ?_
          refine c_ret ?_
          refine t_ret ?_
          refine bp_ret (rs1 rfl (rv_tmp (v := (.bool true)) rfl)) ?_
          exact ⟨rfl, hE⟩
        ·
          have p20 := of_decide_eq_false h16
          refine g_yes rfl rfl rfl h16 ?_
          refine s1 (v := (i64 (qs.length : Int))) (rn_mv rfl) ?_
          refine g_yes rfl rfl rfl h16 ?_
          refine s1 (v := (i64 n)) (rn_mv rfl) ?_
          refine g_yes rfl rfl rfl h16 ?_
          refine s1 (v := (.bool (decide (n < (qs.length : Int))))) (rn_gtr (m := (qs.length : Int)) (n := n) rfl rfl) ?_
          refine s1 (v := (.bool (decide (n < (qs.length : Int))))) (rn_pF (b := (decide (6 < (qs.length : Int)))) rfl h16 rfl) ?_
          refine w_end ?_
          refine c_if (b := (decide (n < (qs.length : Int)))) rfl (fun h21 => ?_) (fun h21 => ?_)
          ·
            have p22 := of_decide_eq_true h21
            refine c_rs ?_
            refine s_callP e20 (v := (.bool true)) (vs := []) rfl (alive_c) (fun w23 x24 => ?_)
            replace hE := hE.step0 x24
            replace hl := hl.ext0 x24
            replace hL := hL.ext0 x24
            clear x24
            refine s1 (v := (.bool true)) (rn_as rfl) ?_
            refine w_end ?_
            refine c_ret ?_
            refine t_ret ?_
            refine bp_ret (rs1 rfl (rv_tmp (v := (.bool true)) rfl)) ?_
            exact ⟨rfl, hE⟩
          ·
            have p25 := of_decide_eq_false h21
            refine c_skip' ?_
            refine t_norm ?_
            refine c_rs ?_
            refine s1 (v := (.slice none 0 0)) (rn_as rfl) ?_
            refine w_end ?_
            refine c_seq ?_
            refine c_rs ?_
            refine s1 (v := (i64 0)) (rn_as rfl) ?_
            refine w_end ?_
            refine c_block ?_
            have hO : Ow w0.heap.size 25 Bok.cells 1 w0 (.slice none 0 0) [] := Ow.nil
            have hBs : Bks w0 [] := Bks.ofNil
            refine c_loop (fun d a w => ∃ (k26 : Nat) (v27 : Value) (bs28 : List Bok) (z_k26 : Nat → Value) , a = Fr 134 (lk [(i64 n), (.slice A qs.length c), undef, undef, (z_k26 4), (i64 (qs.length : Int)), v27, (i64 (k26 : Int)), (z_k26 8), (z_k26 9), undef, undef, undef, undef, undef, (.slice A qs.length c), (i64 (qs.length : Int)), (i64 n), (.bool (decide (n < 1))), (.bool (decide (n < 1))), (i64 n), (.bool (decide (30 < n))), (.bool (decide (30 < n))), (.bool (decide (30 < n))), (i64 (qs.length : Int)), (.bool (decide ((qs.length : Int) < 1))), (.bool (decide ((qs.length : Int) < 1))), (.bool (decide ((qs.length : Int) < 1))), (i64 (qs.length : Int)), (.bool (decide (6 < (qs.length : Int)))), (.bool (decide (6 < (qs.length : Int)))), (.bool (decide (6 < (qs.length : Int)))), (i64 (qs.length : Int)), (i64 n), (.bool (decide (n < (qs.length : Int)))), (.bool (decide (n < (qs.length : Int)))), undef, (z_k26 37), (z_k26 38), (z_k26 39), (z_k26 40), (z_k26 41), (z_k26 42), (z_k26 43), (z_k26 44), (z_k26 45), (z_k26 46), (z_k26 47), (z_k26 48), (z_k26 49), (z_k26 50), (z_k26 51), (z_k26 52), (z_k26 53), (z_k26 54), (z_k26 55), (z_k26 56), (z_k26 57), (z_k26 58), (z_k26 59), (z_k26 60), (z_k26 61), (z_k26 62), (z_k26 63), (z_k26 64), (z_k26 65), (z_k26 66), (z_k26 67), (z_k26 68), (z_k26 69), (z_k26 70), (z_k26 71), (z_k26 72), (z_k26 73), (z_k26 74), (z_k26 75), (z_k26 76), (z_k26 77), (z_k26 78), (z_k26 79), (z_k26 80), (z_k26 81), (z_k26 82), (z_k26 83), undef, undef, undef, undef, undef, undef, undef, undef, undef, undef, undef, undef, undef, undef, undef, undef, undef, undef, undef, undef, undef, undef, undef, undef, undef, undef, undef, undef, undef, undef, undef, undef, undef, undef, undef, undef, undef, undef, undef, undef, undef, undef, undef, undef, undef, undef, undef, undef, undef, undef]) [] ∧ d = qs.length - k26 ∧ k26 ≤ qs.length ∧ Ext [] w0 w ∧ Ls SLs.cells 1 w gl A qs ∧ Lls N3.cells 3 w qs ∧ Ow w0.heap.size 25 Bok.cells 1 w v27 bs28 ∧ Bks w bs28 ∧ (bs28.length = k26) ∧ ((bs28.map Bok.b).Nodup) ∧ (∀ q ∈ bs28, w0.heap.size ≤ q.b) ∧ (∀ (i : Nat) (X : List N3), (bs28.map Bok.xs)[i]? = some X → GB n.toNat qs.length X)) (qs.length - 0) ?_ ?_
            · exact ⟨0, (.slice none 0 0), [], (lk [(i64 n), (.slice A qs.length c), undef, undef, (.bool false), (i64 (qs.length : Int)), (.slice none 0 0), (i64 0), undef, undef, undef, undef, undef, undef, undef, (.slice A qs.length c), (i64 (qs.length : Int)), (i64 n), (.bool (decide (n < 1))), (.bool (decide (n < 1))), (i64 n), (.bool (decide (30 < n))), (.bool (decide (30 < n))), (.bool (decide (30 < n))), (i64 (qs.length : Int)), (.bool (decide ((qs.length : Int) < 1))), (.bool (decide ((qs.length : Int) < 1))), (.bool (decide ((qs.length : Int) < 1))), (i64 (qs.length : Int)), (.bool (decide (6 < (qs.length : Int)))), (.bool (decide (6 < (qs.length : Int)))), (.bool (decide (6 < (qs.length : Int)))), (i64 (qs.length : Int)), (i64 n), (.bool (decide (n < (qs.length : Int)))), (.bool (decide (n < (qs.length : Int)))), undef, undef, undef, undef, undef, undef, undef, undef, undef, undef, undef, undef, undef, undef, undef, undef, undef, undef, undef, undef, undef, undef, undef, undef, undef, undef, undef, undef, undef, undef, undef, undef, undef, undef, undef, undef, undef, undef, undef, undef, undef, undef, undef, undef, undef, undef, undef, undef, undef, undef, undef, undef, undef, undef, undef, undef, undef, undef, undef, undef, undef, undef, undef, undef, undef, undef, undef, undef, undef, undef, undef, undef, undef, undef, undef, undef, undef, undef, undef, undef, undef, undef, undef, undef, undef, undef, undef, undef, undef, undef, undef, undef, undef, undef, undef, undef, undef, undef]), Fr_congr (by kernel_rfl), rfl, Nat.zero_le _, hE, hl, hL, hO, hBs, rfl, List.nodup_nil, fun q h => by simp at h, fun i X h => by simp at h⟩
            clear hE
            clear hl
            clear hL
            clear hO
            clear hBs
            rintro d a w29 ⟨k26, v27, bs28, z_k26, rfl, rfl, hlek26, hE, hl, hL, hO, hBs, hbl, hbn, hbo, hbg⟩
            have hvv := hO.lt
            refine c_seq ?_
            refine c_rs ?_
            refine s1 (v := (i64 (k26 : Int))) (rn_mv rfl) ?_
            refine s1 (v := (i64 (qs.length : Int))) (rn_mv rfl) ?_
            refine s1 (v := (.bool (decide ((k26 : Int) < (qs.length : Int))))) (rn_lss (m := (k26 : Int)) (n := (qs.length : Int)) rfl rfl) ?_
            refine w_end ?_
            refine c_if (b := (decide ((k26 : Int) < (qs.length : Int)))) rfl (fun h30 => ?_) (fun h30 => ?_)
            ·
              have p31 := of_decide_eq_true h30
              refine c_skip' ?_
              refine t_norm ?_
              refine c_seq ?_
              refine c_block ?_
              refine c_seq ?_
              refine c_rs ?_
              refine s1 (v := (.slice A qs.length c)) (rn_mv rfl) ?_
              refine s1 (v := (i64 (k26 : Int))) (rn_mv rfl) ?_
              obtain ⟨x35, o32, hx36, hA33, el34⟩ := hl.el (k := k26) (by omega)
              have hLx35 := hL x35 (List.mem_of_getElem? hx36)
              have hLtx35 := hLlt x35 (List.mem_of_getElem? hx36)
              refine s1 (v := (ptr gl (o32 + k26 * 1))) (rn_ie is92 rfl hA33 rfl (by omega) (by omega) rfl) ?_
              refine s1 (v := (.slice x35.A x35.xs.length x35.c)) (rn_ld1 o22 rfl (el34 0 _ rfl)) ?_
              refine s_callP e19 (v := (.bool (decide ((x35.xs.length : Int) ≤ 300)))) (vs := [(.slice x35.A x35.xs.length x35.c)]) rfl (light_c x35.A x35.xs.length x35.c) (fun w37 x38 => ?_)
              replace hE := hE.step0 x38
              replace el34 := el34.ext0 x38
              replace hl := hl.ext0 x38
              replace hL := hL.ext0 x38
              replace hO := hO.ext0 x38
              replace hBs := hBs.ext0 x38
              replace hLx35 := hLx35.ext0 x38
              clear x38
              refine s1 (v := (.bool (!(decide ((x35.xs.length : Int) ≤ 300))))) (rn_not (b := (decide ((x35.xs.length : Int) ≤ 300))) rfl) ?_
              refine w_end ?_
              refine c_if (b := (!(decide ((x35.xs.length : Int) ≤ 300)))) rfl (fun h39 => ?_) (fun h39 => ?_)
              ·
                have h40 := not_t h39
                have p41 := of_decide_eq_false h40
                refine c_rs ?_
                refine s_callP e20 (v := (.bool true)) (vs := []) rfl (alive_c) (fun w42 x43 => ?_)
                replace hE := hE.step0 x43
                replace el34 := el34.ext0 x43
                replace hl := hl.ext0 x43
                replace hL := hL.ext0 x43
                replace hO := hO.ext0 x43
                replace hBs := hBs.ext0 x43
                replace hLx35 := hLx35.ext0 x43
                clear x43
                refine s1 (v := (.bool true)) (rn_as rfl) ?_
                refine w_end ?_
                refine c_ret ?_
                refine t_ret ?_
                refine b_ret ?_
                refine t_ret ?_
                refine t_ret ?_
                refine b_ret ?_
                refine t_ret ?_
                refine bp_ret (rs1 rfl (rv_tmp (v := (.bool true)) rfl)) ?_
                exact ⟨rfl, hE⟩
              ·
                have h44 := not_f h39
                have p45 := of_decide_eq_true h44
                refine c_skip' ?_
                refine t_norm ?_
                refine c_rs ?_
                refine s1 (v := (i64 n)) (rn_mv rfl) ?_
                refine s1 (v := (i64 (k26 : Int))) (rn_mv rfl) ?_
                refine s_call e21 (vs := [(i64 n), (i64 (k26 : Int)), (.slice none 0 0)]) rfl (made_c (l := ([] : List N3)) (A := none) (gl := 0) (c := 0) n (k26 : Int) Ls.nil (by omega) (by omega) (by omega) (by omega) (by first | omega | simp) (by first | omega | simp)) ?_
                rintro _ w48 ⟨p46, bb47, rfl, hB49, gp46, gbb47, x50⟩
                have np46_hE : w0.heap.size ≤ p46 := Nat.le_trans hE.size gp46
                have obp46_hO : ∀ c ∈ obl v27, c < p46 := fun c hc => Nat.lt_of_lt_of_le (hO.lt c hc).2 gp46
                have obp46_hBs : ∀ q ∈ bs28, q.p < p46 ∧ q.b < p46 := fun q hq => ⟨Nat.lt_of_lt_of_le (hBs q hq).ltp gp46, Nat.lt_of_lt_of_le (hBs q hq).ltb gp46⟩
                clear gp46
                have nbb47_hE : w0.heap.size ≤ bb47 := Nat.le_trans hE.size gbb47
                have obbb47_hO : ∀ c ∈ obl v27, c < bb47 := fun c hc => Nat.lt_of_lt_of_le (hO.lt c hc).2 gbb47
                have obbb47_hBs : ∀ q ∈ bs28, q.p < bb47 ∧ q.b < bb47 := fun q hq => ⟨Nat.lt_of_lt_of_le (hBs q hq).ltp gbb47, Nat.lt_of_lt_of_le (hBs q hq).ltb gbb47⟩
                clear gbb47
                replace hE := hE.step0 x50
                replace el34 := el34.ext0 x50
                replace hl := hl.ext0 x50
                replace hL := hL.ext0 x50
                replace hO := hO.ext0 x50
                replace hBs := hBs.ext0 x50
                replace hLx35 := hLx35.ext0 x50
                clear x50
                rw [mergeR_nil] at hB49
                refine s1 (v := (ptr p46 0)) (rn_as rfl) ?_
                refine w_end ?_
                refine c_seq ?_
                refine c_rs ?_
                refine s1 (v := (i64 0)) (rn_as rfl) ?_
                refine w_end ?_
                refine c_block ?_
                have hgn : GB n.toNat qs.length (newL (n).toNat (k26 : Int) 0) := new_gb (by omega) (by omega) (by omega)
                refine c_loop (fun d a w => ∃ (k51 : Nat) (z_k51 : Nat → Value) , a = Fr 134 (lk [(i64 n), (.slice A qs.length c), undef, undef, (z_k26 4), (i64 (qs.length : Int)), v27, (i64 (k26 : Int)), (ptr p46 0), (i64 (k51 : Int)), undef, undef, undef, undef, undef, (.slice A qs.length c), (i64 (qs.length : Int)), (i64 n), (.bool (decide (n < 1))), (.bool (decide (n < 1))), (i64 n), (.bool (decide (30 < n))), (.bool (decide (30 < n))), (.bool (decide (30 < n))), (i64 (qs.length : Int)), (.bool (decide ((qs.length : Int) < 1))), (.bool (decide ((qs.length : Int) < 1))), (.bool (decide ((qs.length : Int) < 1))), (i64 (qs.length : Int)), (.bool (decide (6 < (qs.length : Int)))), (.bool (decide (6 < (qs.length : Int)))), (.bool (decide (6 < (qs.length : Int)))), (i64 (qs.length : Int)), (i64 n), (.bool (decide (n < (qs.length : Int)))), (.bool (decide (n < (qs.length : Int)))), undef, (i64 (k26 : Int)), (i64 (qs.length : Int)), (.bool (decide ((k26 : Int) < (qs.length : Int)))), (z_k26 40), (z_k26 41), (.slice A qs.length c), (i64 (k26 : Int)), (ptr gl (o32 + k26 * 1)), (.slice x35.A x35.xs.length x35.c), (.bool (decide ((x35.xs.length : Int) ≤ 300))), (.bool (!(decide ((x35.xs.length : Int) ≤ 300)))), (z_k26 48), (i64 n), (i64 (k26 : Int)), (ptr p46 0), (z_k51 52), (z_k51 53), (z_k51 54), (z_k51 55), (z_k51 56), (z_k51 57), (z_k51 58), (z_k51 59), (z_k51 60), (z_k51 61), (z_k51 62), (z_k51 63), (z_k51 64), (z_k51 65), (z_k51 66), (z_k51 67), (z_k51 68), (z_k51 69), (z_k51 70), (z_k51 71), (z_k51 72), (z_k51 73), (z_k51 74), (z_k51 75), (z_k51 76), (z_k51 77), (z_k51 78), (z_k51 79), (z_k26 80), (z_k26 81), (z_k26 82), (z_k26 83), undef, undef, undef, undef, undef, undef, undef, undef, undef, undef, undef, undef, undef, undef, undef, undef, undef, undef, undef, undef, undef, undef, undef, undef, undef, undef, undef, undef, undef, undef, undef, undef, undef, undef, undef, undef, undef, undef, undef, undef, undef, undef, undef, undef, undef, undef, undef, undef, undef, undef]) [] ∧ d = x35.xs.length - k51 ∧ k51 ≤ x35.xs.length ∧ Ext [] w0 w ∧ Ls SLs.cells 1 w gl A qs ∧ Lls N3.cells 3 w qs ∧ Ow w0.heap.size 25 Bok.cells 1 w v27 bs28 ∧ Bks w bs28 ∧ Ls N3.cells 3 w x35.g x35.A x35.xs ∧ Bk w p46 bb47 (gfold qs.length (newL (n).toNat (k26 : Int) 0) (x35.xs.take k51))) (x35.xs.length - 0) ?_ ?_
                · exact ⟨0, (lk [(i64 n), (.slice A qs.length c), undef, undef, (z_k26 4), (i64 (qs.length : Int)), v27, (i64 (k26 : Int)), (ptr p46 0), (i64 0), undef, undef, undef, undef, undef, (.slice A qs.length c), (i64 (qs.length : Int)), (i64 n), (.bool (decide (n < 1))), (.bool (decide (n < 1))), (i64 n), (.bool (decide (30 < n))), (.bool (decide (30 < n))), (.bool (decide (30 < n))), (i64 (qs.length : Int)), (.bool (decide ((qs.length : Int) < 1))), (.bool (decide ((qs.length : Int) < 1))), (.bool (decide ((qs.length : Int) < 1))), (i64 (qs.length : Int)), (.bool (decide (6 < (qs.length : Int)))), (.bool (decide (6 < (qs.length : Int)))), (.bool (decide (6 < (qs.length : Int)))), (i64 (qs.length : Int)), (i64 n), (.bool (decide (n < (qs.length : Int)))), (.bool (decide (n < (qs.length : Int)))), undef, (i64 (k26 : Int)), (i64 (qs.length : Int)), (.bool (decide ((k26 : Int) < (qs.length : Int)))), (z_k26 40), (z_k26 41), (.slice A qs.length c), (i64 (k26 : Int)), (ptr gl (o32 + k26 * 1)), (.slice x35.A x35.xs.length x35.c), (.bool (decide ((x35.xs.length : Int) ≤ 300))), (.bool (!(decide ((x35.xs.length : Int) ≤ 300)))), (z_k26 48), (i64 n), (i64 (k26 : Int)), (ptr p46 0), (z_k26 52), (z_k26 53), (z_k26 54), (z_k26 55), (z_k26 56), (z_k26 57), (z_k26 58), (z_k26 59), (z_k26 60), (z_k26 61), (z_k26 62), (z_k26 63), (z_k26 64), (z_k26 65), (z_k26 66), (z_k26 67), (z_k26 68), (z_k26 69), (z_k26 70), (z_k26 71), (z_k26 72), (z_k26 73), (z_k26 74), (z_k26 75), (z_k26 76), (z_k26 77), (z_k26 78), (z_k26 79), (z_k26 80), (z_k26 81), (z_k26 82), (z_k26 83), undef, undef, undef, undef, undef, undef, undef, undef, undef, undef, undef, undef, undef, undef, undef, undef, undef, undef, undef, undef, undef, undef, undef, undef, undef, undef, undef, undef, undef, undef, undef, undef, undef, undef, undef, undef, undef, undef, undef, undef, undef, undef, undef, undef, undef, undef, undef, undef, undef, undef]), Fr_congr (by kernel_rfl), rfl, Nat.zero_le _, hE, hl, hL, hO, hBs, hLx35, hB49⟩
                clear hE
                clear hl
                clear hL
                clear hO
                clear hBs
                clear hLx35
                clear hB49
                rintro d a w52 ⟨k51, z_k51, rfl, rfl, hlek51, hE, hl, hL, hO, hBs, hLx35, hB49⟩
                have hgf := gfold_gb (x35.xs.take k51) hgn
                have hgl_ := hgf.2.1
                refine c_seq ?_
                refine c_rs ?_
                refine s1 (v := (i64 (k51 : Int))) (rn_mv rfl) ?_
                refine s1 (v := (.slice A qs.length c)) (rn_mv rfl) ?_
                refine s1 (v := (i64 (k26 : Int))) (rn_mv rfl) ?_
                obtain ⟨o53, hA54, el55⟩ := hl.elAt (k := k26) hx36
                refine s1 (v := (ptr gl (o53 + k26 * 1))) (rn_ie is92 rfl hA54 rfl (by omega) (by omega) rfl) ?_
                refine s1 (v := (.slice x35.A x35.xs.length x35.c)) (rn_ld1 o22 rfl (el55 0 _ rfl)) ?_
                refine s1 (v := (i64 (x35.xs.length : Int))) (rn_len is22 rfl) ?_
                refine s1 (v := (.bool (decide ((k51 : Int) < (x35.xs.length : Int))))) (rn_lss (m := (k51 : Int)) (n := (x35.xs.length : Int)) rfl rfl) ?_
                refine w_end ?_
                refine c_if (b := (decide ((k51 : Int) < (x35.xs.length : Int)))) rfl (fun h56 => ?_) (fun h56 => ?_)
                ·
                  have p57 := of_decide_eq_true h56
                  refine c_skip' ?_
                  refine t_norm ?_
                  refine c_seq ?_
                  refine c_block ?_
                  refine c_rs ?_
                  refine s1 (v := (.slice A qs.length c)) (rn_mv rfl) ?_
                  refine s1 (v := (i64 (k26 : Int))) (rn_mv rfl) ?_
                  refine s1 (v := (ptr gl (o53 + k26 * 1))) (rn_ie is92 rfl hA54 rfl (by omega) (by omega) rfl) ?_
                  refine s1 (v := (.slice x35.A x35.xs.length x35.c)) (rn_ld1 o22 rfl (el55 0 _ rfl)) ?_
                  refine s1 (v := (i64 (k51 : Int))) (rn_mv rfl) ?_
                  obtain ⟨x61, o58, hx62, hA59, el60⟩ := hLx35.el (k := k51) (by omega)
                  refine s1 (v := (ptr x35.g (o58 + k51 * 3))) (rn_ie is22 rfl hA59 rfl (by omega) (by omega) rfl) ?_
                  refine s1 (v := (ptr x35.g (o58 + k51 * 3))) (rn_fa fa28_0 rfl rfl) ?_
                  refine s1 (v := (i64 x61.of)) (rn_ld1 o3 rfl (el60 0 _ rfl)) ?_
                  refine s1 (v := (i64 (qs.length : Int))) (rn_mv rfl) ?_
                  refine s1 (v := (.bool (decide ((qs.length : Int) ≤ x61.of)))) (rn_geq (m := x61.of) (n := (qs.length : Int)) rfl rfl) ?_
                  refine w_end ?_
                  refine c_if (b := (decide ((qs.length : Int) ≤ x61.of))) rfl (fun h63 => ?_) (fun h63 => ?_)
                  ·
                    have p64 := of_decide_eq_true h63
                    refine c_r ?_
                    refine s1 (v := (ptr p46 0)) (rn_mv rfl) ?_
                    refine s1 (v := (.slice A qs.length c)) (rn_mv rfl) ?_
                    refine s1 (v := (i64 (k26 : Int))) (rn_mv rfl) ?_
                    refine s1 (v := (ptr gl (o53 + k26 * 1))) (rn_ie is92 rfl hA54 rfl (by omega) (by omega) rfl) ?_
                    refine s1 (v := (.slice x35.A x35.xs.length x35.c)) (rn_ld1 o22 rfl (el55 0 _ rfl)) ?_
                    refine s1 (v := (i64 (k51 : Int))) (rn_mv rfl) ?_
                    refine s1 (v := (ptr x35.g (o58 + k51 * 3))) (rn_ie is22 rfl hA59 rfl (by omega) (by omega) rfl) ?_
                    refine s1 (v := (N3.val x61)) (rn_ldN (vs := (N3.cells x61)) g28 rfl rfl el60) ?_
                    refine s_call e47 (vs := [(ptr p46 0), (N3.val x61)]) rfl (Take_c hB49 x61) ?_
                    rintro _ w65 ⟨rfl, hB66, x67⟩
                    replace hE := hE.step1 x67 (by first | (left; simp; done) | (right; omega))
                    replace el55 := el55.ext1 x67 (by omega)
                    replace el60 := el60.ext1 x67 (by omega)
                    replace hl := hl.ext1 x67 (by omega)
                    replace hL := hL.ext1 x67 (fun q hq => by have h_ := hLlt q hq; omega)
                    replace hO := hO.ext x67 (fun c hc => by have h_ := hO.lt c hc; have := obp46_hO c hc; have := obbb47_hO c hc; simp; omega)
                    replace hBs := hBs.ext1 x67 (fun q hq => by have h0_ := obp46_hBs q hq; have h1_ := obbb47_hBs q hq; omega)
                    replace hLx35 := hLx35.ext1 x67 (by omega)
                    clear x67
                    replace hB49 := hB66; clear hB66
                    refine w_nil ?_
                    refine b_norm ?_
                    refine t_norm ?_
                    refine fr_eq (l' := (lk [(i64 n), (.slice A qs.length c), undef, undef, (z_k26 4), (i64 (qs.length : Int)), v27, (i64 (k26 : Int)), (ptr p46 0), (i64 (k51 : Int)), undef, undef, undef, undef, undef, (.slice A qs.length c), (i64 (qs.length : Int)), (i64 n), (.bool (decide (n < 1))), (.bool (decide (n < 1))), (i64 n), (.bool (decide (30 < n))), (.bool (decide (30 < n))), (.bool (decide (30 < n))), (i64 (qs.length : Int)), (.bool (decide ((qs.length : Int) < 1))), (.bool (decide ((qs.length : Int) < 1))), (.bool (decide ((qs.length : Int) < 1))), (i64 (qs.length : Int)), (.bool (decide (6 < (qs.length : Int)))), (.bool (decide (6 < (qs.length : Int)))), (.bool (decide (6 < (qs.length : Int)))), (i64 (qs.length : Int)), (i64 n), (.bool (decide (n < (qs.length : Int)))), (.bool (decide (n < (qs.length : Int)))), undef, (i64 (k26 : Int)), (i64 (qs.length : Int)), (.bool (decide ((k26 : Int) < (qs.length : Int)))), (z_k26 40), (z_k26 41), (.slice A qs.length c), (i64 (k26 : Int)), (ptr gl (o32 + k26 * 1)), (.slice x35.A x35.xs.length x35.c), (.bool (decide ((x35.xs.length : Int) ≤ 300))), (.bool (!(decide ((x35.xs.length : Int) ≤ 300)))), (z_k26 48), (i64 n), (i64 (k26 : Int)), (ptr p46 0), (i64 (k51 : Int)), (.slice A qs.length c), (i64 (k26 : Int)), (ptr gl (o53 + k26 * 1)), (.slice x35.A x35.xs.length x35.c), (i64 (x35.xs.length : Int)), (.bool (decide ((k51 : Int) < (x35.xs.length : Int)))), (z_k51 59), (z_k51 60), (.slice A qs.length c), (i64 (k26 : Int)), (ptr gl (o53 + k26 * 1)), (.slice x35.A x35.xs.length x35.c), (i64 (k51 : Int)), (ptr x35.g (o58 + k51 * 3)), (ptr x35.g (o58 + k51 * 3)), (i64 x61.of), (i64 (qs.length : Int)), (.bool (decide ((qs.length : Int) ≤ x61.of))), (ptr p46 0), (.slice A qs.length c), (i64 (k26 : Int)), (ptr gl (o53 + k26 * 1)), (.slice x35.A x35.xs.length x35.c), (i64 (k51 : Int)), (ptr x35.g (o58 + k51 * 3)), (N3.val x61), (.tuple #[(.bool (takes (gfold qs.length (newL (n).toNat (k26 : Int) 0) (x35.xs.take k51)) x61)), (i64 (takeE (gfold qs.length (newL (n).toNat (k26 : Int) 0) (x35.xs.take k51)) x61))]), (z_k26 80), (z_k26 81), (z_k26 82), (z_k26 83), undef, undef, undef, undef, undef, undef, undef, undef, undef, undef, undef, undef, undef, undef, undef, undef, undef, undef, undef, undef, undef, undef, undef, undef, undef, undef, undef, undef, undef, undef, undef, undef, undef, undef, undef, undef, undef, undef, undef, undef, undef, undef, undef, undef, undef, undef, undef, undef, undef, undef])) (by kernel_rfl) ?_
                    refine c_r ?_
                    refine s1 (v := (i64 (k51 : Int))) (rn_mv rfl) ?_
                    refine s1 (v := (i64 ((k51 : Int) + 1))) (rn_add (m := (k51 : Int)) (n := 1) rfl rfl (wr64 (by omega) (by omega))) ?_
                    refine s1 (v := (i64 ((k51 : Int) + 1))) (rn_as rfl) ?_
                    refine w_nil ?_
                    refine t_norm ?_
                    have et : gfold qs.length (newL (n).toNat (k26 : Int) 0) (x35.xs.take (k51 + 1)) = (take1 (gfold qs.length (newL (n).toNat (k26 : Int) 0) (x35.xs.take k51)) x61) := by rw [take_snoc hx62, gfold_snoc, if_pos (of_decide_eq_true h63)]
                    rw [← et] at hB49
                    exact ⟨x35.xs.length - (k51 + 1), by omega, k51 + 1, (lk [(i64 n), (.slice A qs.length c), undef, undef, (z_k26 4), (i64 (qs.length : Int)), v27, (i64 (k26 : Int)), (ptr p46 0), (i64 ((k51 : Int) + 1)), undef, undef, undef, undef, undef, (.slice A qs.length c), (i64 (qs.length : Int)), (i64 n), (.bool (decide (n < 1))), (.bool (decide (n < 1))), (i64 n), (.bool (decide (30 < n))), (.bool (decide (30 < n))), (.bool (decide (30 < n))), (i64 (qs.length : Int)), (.bool (decide ((qs.length : Int) < 1))), (.bool (decide ((qs.length : Int) < 1))), (.bool (decide ((qs.length : Int) < 1))), (i64 (qs.length : Int)), (.bool (decide (6 < (qs.length : Int)))), (.bool (decide (6 < (qs.length : Int)))), (.bool (decide (6 < (qs.length : Int)))), (i64 (qs.length : Int)), (i64 n), (.bool (decide (n < (qs.length : Int)))), (.bool (decide (n < (qs.length : Int)))), undef, (i64 (k26 : Int)), (i64 (qs.length : Int)), (.bool (decide ((k26 : Int) < (qs.length : Int)))), (z_k26 40), (z_k26 41), (.slice A qs.length c), (i64 (k26 : Int)), (ptr gl (o32 + k26 * 1)), (.slice x35.A x35.xs.length x35.c), (.bool (decide ((x35.xs.length : Int) ≤ 300))), (.bool (!(decide ((x35.xs.length : Int) ≤ 300)))), (z_k26 48), (i64 n), (i64 (k26 : Int)), (ptr p46 0), (i64 (k51 : Int)), (.slice A qs.length c), (i64 (k26 : Int)), (ptr gl (o53 + k26 * 1)), (.slice x35.A x35.xs.length x35.c), (i64 (x35.xs.length : Int)), (.bool (decide ((k51 : Int) < (x35.xs.length : Int)))), (i64 (k51 : Int)), (i64 ((k51 : Int) + 1)), (.slice A qs.length c), (i64 (k26 : Int)), (ptr gl (o53 + k26 * 1)), (.slice x35.A x35.xs.length x35.c), (i64 (k51 : Int)), (ptr x35.g (o58 + k51 * 3)), (ptr x35.g (o58 + k51 * 3)), (i64 x61.of), (i64 (qs.length : Int)), (.bool (decide ((qs.length : Int) ≤ x61.of))), (ptr p46 0), (.slice A qs.length c), (i64 (k26 : Int)), (ptr gl (o53 + k26 * 1)), (.slice x35.A x35.xs.length x35.c), (i64 (k51 : Int)), (ptr x35.g (o58 + k51 * 3)), (N3.val x61), (.tuple #[(.bool (takes (gfold qs.length (newL (n).toNat (k26 : Int) 0) (x35.xs.take k51)) x61)), (i64 (takeE (gfold qs.length (newL (n).toNat (k26 : Int) 0) (x35.xs.take k51)) x61))]), (z_k26 80), (z_k26 81), (z_k26 82), (z_k26 83), undef, undef, undef, undef, undef, undef, undef, undef, undef, undef, undef, undef, undef, undef, undef, undef, undef, undef, undef, undef, undef, undef, undef, undef, undef, undef, undef, undef, undef, undef, undef, undef, undef, undef, undef, undef, undef, undef, undef, undef, undef, undef, undef, undef, undef, undef, undef, undef, undef, undef]), Fr_congr (by kernel_rfl), rfl, by omega, hE, hl, hL, hO, hBs, hLx35, hB49⟩
                  ·
                    have p68 := of_decide_eq_false h63
                    refine c_skip' ?_
                    refine b_norm ?_
                    refine t_norm ?_
                    refine c_r ?_
                    refine s1 (v := (i64 (k51 : Int))) (rn_mv rfl) ?_
                    refine s1 (v := (i64 ((k51 : Int) + 1))) (rn_add (m := (k51 : Int)) (n := 1) rfl rfl (wr64 (by omega) (by omega))) ?_
                    refine s1 (v := (i64 ((k51 : Int) + 1))) (rn_as rfl) ?_
                    refine w_nil ?_
                    refine t_norm ?_
                    have et : gfold qs.length (newL (n).toNat (k26 : Int) 0) (x35.xs.take (k51 + 1)) = (gfold qs.length (newL (n).toNat (k26 : Int) 0) (x35.xs.take k51)) := by rw [take_snoc hx62, gfold_snoc, if_neg (of_decide_eq_false h63)]
                    rw [← et] at hB49
                    exact ⟨x35.xs.length - (k51 + 1), by omega, k51 + 1, (lk [(i64 n), (.slice A qs.length c), undef, undef, (z_k26 4), (i64 (qs.length : Int)), v27, (i64 (k26 : Int)), (ptr p46 0), (i64 ((k51 : Int) + 1)), undef, undef, undef, undef, undef, (.slice A qs.length c), (i64 (qs.length : Int)), (i64 n), (.bool (decide (n < 1))), (.bool (decide (n < 1))), (i64 n), (.bool (decide (30 < n))), (.bool (decide (30 < n))), (.bool (decide (30 < n))), (i64 (qs.length : Int)), (.bool (decide ((qs.length : Int) < 1))), (.bool (decide ((qs.length : Int) < 1))), (.bool (decide ((qs.length : Int) < 1))), (i64 (qs.length : Int)), (.bool (decide (6 < (qs.length : Int)))), (.bool (decide (6 < (qs.length : Int)))), (.bool (decide (6 < (qs.length : Int)))), (i64 (qs.length : Int)), (i64 n), (.bool (decide (n < (qs.length : Int)))), (.bool (decide (n < (qs.length : Int)))), undef, (i64 (k26 : Int)), (i64 (qs.length : Int)), (.bool (decide ((k26 : Int) < (qs.length : Int)))), (z_k26 40), (z_k26 41), (.slice A qs.length c), (i64 (k26 : Int)), (ptr gl (o32 + k26 * 1)), (.slice x35.A x35.xs.length x35.c), (.bool (decide ((x35.xs.length : Int) ≤ 300))), (.bool (!(decide ((x35.xs.length : Int) ≤ 300)))), (z_k26 48), (i64 n), (i64 (k26 : Int)), (ptr p46 0), (i64 (k51 : Int)), (.slice A qs.length c), (i64 (k26 : Int)), (ptr gl (o53 + k26 * 1)), (.slice x35.A x35.xs.length x35.c), (i64 (x35.xs.length : Int)), (.bool (decide ((k51 : Int) < (x35.xs.length : Int)))), (i64 (k51 : Int)), (i64 ((k51 : Int) + 1)), (.slice A qs.length c), (i64 (k26 : Int)), (ptr gl (o53 + k26 * 1)), (.slice x35.A x35.xs.length x35.c), (i64 (k51 : Int)), (ptr x35.g (o58 + k51 * 3)), (ptr x35.g (o58 + k51 * 3)), (i64 x61.of), (i64 (qs.length : Int)), (.bool (decide ((qs.length : Int) ≤ x61.of))), (z_k51 71), (z_k51 72), (z_k51 73), (z_k51 74), (z_k51 75), (z_k51 76), (z_k51 77), (z_k51 78), (z_k51 79), (z_k26 80), (z_k26 81), (z_k26 82), (z_k26 83), undef, undef, undef, undef, undef, undef, undef, undef, undef, undef, undef, undef, undef, undef, undef, undef, undef, undef, undef, undef, undef, undef, undef, undef, undef, undef, undef, undef, undef, undef, undef, undef, undef, undef, undef, undef, undef, undef, undef, undef, undef, undef, undef, undef, undef, undef, undef, undef, undef, undef]), Fr_congr (by kernel_rfl), rfl, by omega, hE, hl, hL, hO, hBs, hLx35, hB49⟩
                ·
                  have p69 := of_decide_eq_false h56
                  refine c_exit ?_
                  refine t_exit ?_
                  refine t_exit ?_
                  refine b_here ?_
                  refine t_norm ?_
                  refine c_r ?_
                  refine s1 (v := v27) (rn_mv rfl) ?_
                  refine s1 (v := (ptr p46 0)) (rn_mv rfl) ?_
                  refine s_bs et93 (vs := #[(0, (ptr p46 0))]) (cs := [(ptr p46 0)]) (by kernel_rfl) (by decide) (by kernel_rfl) (fun b70 w71 hb70 gb70 x72 => ?_)
                  have nb70_hE : w0.heap.size ≤ b70 := Nat.le_trans hE.size gb70
                  have obb70_hO : ∀ c ∈ obl v27, c < b70 := fun c hc => Nat.lt_of_lt_of_le (hO.lt c hc).2 gb70
                  have obb70_hBs : ∀ q ∈ bs28, q.p < b70 ∧ q.b < b70 := fun q hq => ⟨Nat.lt_of_lt_of_le (hBs q hq).ltp gb70, Nat.lt_of_lt_of_le (hBs q hq).ltb gb70⟩
                  have ob70_hB49 : p46 < b70 ∧ bb47 < b70 := ⟨Nat.lt_of_lt_of_le hB49.ltp gb70, Nat.lt_of_lt_of_le hB49.ltb gb70⟩
                  clear gb70
                  replace hE := hE.step0 x72
                  replace el55 := el55.ext0 x72
                  replace hl := hl.ext0 x72
                  replace hL := hL.ext0 x72
                  replace hO := hO.ext0 x72
                  replace hBs := hBs.ext0 x72
                  replace hLx35 := hLx35.ext0 x72
                  replace hB49 := hB49.ext0 x72
                  clear x72
                  have hl73 : Ls Bok.cells 1 w71 b70 (some ⟨b70, 0, none⟩) [Bok.mk p46 bb47 (gfold qs.length (newL (n).toNat (k26 : Int) 0) (x35.xs.take k51))] := Ls.of_blk (rest := []) (fun _ => rfl) hb70
                  have hgb : GB n.toNat qs.length (gfold qs.length (newL (n).toNat (k26 : Int) 0) (x35.xs.take k51)) := gfold_gb _ hgn
                  replace hBs := hBs.snoc hB49
                  refine s_app (ys := [Bok.mk p46 bb47 (gfold qs.length (newL (n).toNat (k26 : Int) 0) (x35.xs.take k51))]) et93 (fun _ => rfl) (fun _ => rfl) hO (by have h_ := hE.size; omega) rfl rfl hl73 (by simp only [List.length_cons, List.length_nil]; omega) (by simp only [List.length_cons, List.length_nil]; omega) (fun v74 w75 hO77 x76 hVv74 => ?_)
                  have hVsv74 := hE.size
                  clear hb70
                  clear hl73
                  replace hE := hE.step x76 (fun c hc => by first | (left; simp [hc]; done) | (right; have h_ := hO.lt c hc; have := obp46_hO c hc; have := obbb47_hO c hc; have := obb70_hO c hc; omega))
                  replace el55 := el55.ext x76 (fun hc => by have h_ := hO.lt _ hc; have := obp46_hO _ hc; have := obbb47_hO _ hc; have := obb70_hO _ hc; omega)
                  replace hl := hl.ext x76 (fun hc => by have h_ := hO.lt _ hc; have := obp46_hO _ hc; have := obbb47_hO _ hc; have := obb70_hO _ hc; omega)
                  replace hL := hL.ext x76 (fun q hq => by have h1_ := hLlt q hq; rcases h1_ with h1_ | h1_; exact .inl (fun hc => by have h_ := hO.lt _ hc; omega); exact .inr h1_)
                  replace hLx35 := hLx35.ext x76 (fun hc => by have h_ := hO.lt _ hc; have := obp46_hO _ hc; have := obbb47_hO _ hc; have := obb70_hO _ hc; omega)
                  replace hBs := hBs.ext x76 (hO.neBks hBs (by decide) (by decide))
                  clear x76
                  replace hO := hO77; clear hO77
                  refine s1 (v := v74) (rn_as rfl) ?_
                  refine w_nil ?_
                  refine b_norm ?_
                  refine t_norm ?_
                  refine c_r ?_
                  refine s1 (v := (i64 (k26 : Int))) (rn_mv rfl) ?_
                  refine s1 (v := (i64 ((k26 : Int) + 1))) (rn_add (m := (k26 : Int)) (n := 1) rfl rfl (wr64 (by omega) (by omega))) ?_
                  refine s1 (v := (i64 ((k26 : Int) + 1))) (rn_as rfl) ?_
                  refine w_nil ?_
                  refine t_norm ?_
                  exact ⟨qs.length - (k26 + 1), by omega, k26 + 1, v74, (bs28 ++ [Bok.mk p46 bb47 (gfold qs.length (newL (n).toNat (k26 : Int) 0) (x35.xs.take k51))]), (lk [(i64 n), (.slice A qs.length c), undef, undef, (z_k26 4), (i64 (qs.length : Int)), v74, (i64 ((k26 : Int) + 1)), (ptr p46 0), (i64 (k51 : Int)), undef, undef, undef, undef, undef, (.slice A qs.length c), (i64 (qs.length : Int)), (i64 n), (.bool (decide (n < 1))), (.bool (decide (n < 1))), (i64 n), (.bool (decide (30 < n))), (.bool (decide (30 < n))), (.bool (decide (30 < n))), (i64 (qs.length : Int)), (.bool (decide ((qs.length : Int) < 1))), (.bool (decide ((qs.length : Int) < 1))), (.bool (decide ((qs.length : Int) < 1))), (i64 (qs.length : Int)), (.bool (decide (6 < (qs.length : Int)))), (.bool (decide (6 < (qs.length : Int)))), (.bool (decide (6 < (qs.length : Int)))), (i64 (qs.length : Int)), (i64 n), (.bool (decide (n < (qs.length : Int)))), (.bool (decide (n < (qs.length : Int)))), undef, (i64 (k26 : Int)), (i64 (qs.length : Int)), (.bool (decide ((k26 : Int) < (qs.length : Int)))), (i64 (k26 : Int)), (i64 ((k26 : Int) + 1)), (.slice A qs.length c), (i64 (k26 : Int)), (ptr gl (o32 + k26 * 1)), (.slice x35.A x35.xs.length x35.c), (.bool (decide ((x35.xs.length : Int) ≤ 300))), (.bool (!(decide ((x35.xs.length : Int) ≤ 300)))), (z_k26 48), (i64 n), (i64 (k26 : Int)), (ptr p46 0), (i64 (k51 : Int)), (.slice A qs.length c), (i64 (k26 : Int)), (ptr gl (o53 + k26 * 1)), (.slice x35.A x35.xs.length x35.c), (i64 (x35.xs.length : Int)), (.bool (decide ((k51 : Int) < (x35.xs.length : Int)))), (z_k51 59), (z_k51 60), (z_k51 61), (z_k51 62), (z_k51 63), (z_k51 64), (z_k51 65), (z_k51 66), (z_k51 67), (z_k51 68), (z_k51 69), (z_k51 70), (z_k51 71), (z_k51 72), (z_k51 73), (z_k51 74), (z_k51 75), (z_k51 76), (z_k51 77), (z_k51 78), (z_k51 79), v27, (ptr p46 0), (.slice (some ⟨b70, 0, none⟩) 1 1), v74, undef, undef, undef, undef, undef, undef, undef, undef, undef, undef, undef, undef, undef, undef, undef, undef, undef, undef, undef, undef, undef, undef, undef, undef, undef, undef, undef, undef, undef, undef, undef, undef, undef, undef, undef, undef, undef, undef, undef, undef, undef, undef, undef, undef, undef, undef, undef, undef, undef, undef]), Fr_congr (by kernel_rfl), rfl, by omega, hE, hl, hL, hO, hBs, by rw [List.length_append, hbl]; rfl, by rw [List.map_append]; exact nodup_snoc hbn (fun h_ => by obtain ⟨r_, hr_, e_⟩ := List.mem_map.1 h_; have h1_ := obbb47_hBs r_ hr_; simp only at e_; omega), fun q_ h_ => by rcases List.mem_append.1 h_ with h1_ | h1_; exact hbo q_ h1_; simp at h1_; subst h1_; omega, fun i_ X_ h_ => by rw [List.map_append, List.getElem?_append] at h_; split at h_; exact hbg i_ X_ h_; (have h2_ := List.mem_of_getElem? h_); simp at h2_; subst h2_; exact hgb⟩
            ·
              have p78 := of_decide_eq_false h30
              refine c_exit ?_
              refine t_exit ?_
              refine t_exit ?_
              refine b_here ?_
              refine t_norm ?_
              refine c_rs ?_
              have hbk : bs28.length = qs.length := by omega
              obtain ⟨gla, ca, resta, rfl, hgla, hba⟩ := hO.blk (by intro h_; rw [h_] at hbk; simp at hbk; omega)
              have hla : Ls Bok.cells 1 w29 gla (some ⟨gla, 0, none⟩) bs28 := Ls.of_blk (fun _ => rfl) hba
              have hnb := hba.neBks hBs (by decide) (by decide)
              have hltb := hBs.lt
              have hge : ∀ q ∈ bs28, GB n.toNat qs.length q.xs := fun q hq => by obtain ⟨i_, hi_⟩ := List.getElem?_of_mem hq; exact hbg i_ q.xs (by rw [List.getElem?_map, hi_]; rfl)
              have hol := hla.lt (by simp)
              refine s1 (v := (.slice (some ⟨gla, 0, none⟩) bs28.length ca)) (rn_mv rfl) ?_
              refine s_call e48 (vs := [(.slice (some ⟨gla, 0, none⟩) bs28.length ca)]) rfl (Level_c (qs := bs28) (c := ca) hla hBs (by omega) (by omega) (fun q hq => (hge q hq).1) (fun q hq r hr => by rw [(hge q hq).2.1, (hge r hr).2.1])) ?_
              rintro _ w83 ⟨A79, c80, g81, rfl, hl82, gg81, x84⟩
              have dbg81 : ∀ q ∈ bs28, (q.p < g81 ∧ q.b < g81) ∨ ((levelL bs28)).length = 0 := fun q hq => gg81.imp_left (fun q_ => ⟨Nat.lt_of_lt_of_le (hBs q hq).ltp q_, Nat.lt_of_lt_of_le (hBs q hq).ltb q_⟩)
              have dg81 := gg81.imp_left (fun q => Nat.le_trans hE.size q)
              clear gg81
              replace hE := hE.step0 x84
              replace hl := hl.ext0 x84
              replace hL := hL.ext0 x84
              replace hba := hba.ext0 x84
              replace hla := hla.ext0 x84
              replace hBs := hBs.ext0 x84
              clear x84
              refine s1 (v := (.tuple #[(.slice A79 ((levelL bs28).length) c80), (i64 0)])) (rn_mv rfl) ?_
              refine s1 (v := (.slice A79 ((levelL bs28).length) c80)) (rn_ex (vs := [(.slice A79 ((levelL bs28).length) c80), (i64 0)]) rfl rfl) ?_
              refine s1 (v := (i64 0)) (rn_ex (vs := [(.slice A79 ((levelL bs28).length) c80), (i64 0)]) rfl rfl) ?_
              refine s1 (v := (.slice A79 ((levelL bs28).length) c80)) (rn_as rfl) ?_
              refine s1 (v := (i64 0)) (rn_as rfl) ?_
              refine w_end ?_
              refine c_seq ?_
              refine c_rs ?_
              refine s1 (v := (i64 0)) (rn_as rfl) ?_
              refine w_end ?_
              refine c_block ?_
              have hrow : Ls Bok.cells 1 w83 gla (some ⟨gla, 0, none⟩) bs28 := hla
              clear hrow
              have hgi : GInv n.toNat qs.length (bs28.map Bok.xs) (bs28.map Bok.xs) 0 := ginv_zero (by rw [List.length_map]; omega) hbg
              refine c_loop (fun d a w => ∃ (k85 : Nat) (cs86 : List Bok) (t87 : Nat) (z_k85 : Nat → Value) , a = Fr 134 (lk [(i64 n), (.slice A qs.length c), undef, undef, (z_k26 4), (i64 (qs.length : Int)), (.slice (some ⟨gla, 0, none⟩) bs28.length ca), (i64 (k26 : Int)), (z_k26 8), (z_k26 9), (.slice A79 ((levelL bs28).length) c80), (i64 0), (i64 (k85 : Int)), (z_k85 13), undef, (.slice A qs.length c), (i64 (qs.length : Int)), (i64 n), (.bool (decide (n < 1))), (.bool (decide (n < 1))), (i64 n), (.bool (decide (30 < n))), (.bool (decide (30 < n))), (.bool (decide (30 < n))), (i64 (qs.length : Int)), (.bool (decide ((qs.length : Int) < 1))), (.bool (decide ((qs.length : Int) < 1))), (.bool (decide ((qs.length : Int) < 1))), (i64 (qs.length : Int)), (.bool (decide (6 < (qs.length : Int)))), (.bool (decide (6 < (qs.length : Int)))), (.bool (decide (6 < (qs.length : Int)))), (i64 (qs.length : Int)), (i64 n), (.bool (decide (n < (qs.length : Int)))), (.bool (decide (n < (qs.length : Int)))), undef, (i64 (k26 : Int)), (i64 (qs.length : Int)), (.bool (decide ((k26 : Int) < (qs.length : Int)))), (z_k26 40), (z_k26 41), (z_k26 42), (z_k26 43), (z_k26 44), (z_k26 45), (z_k26 46), (z_k26 47), (z_k26 48), (z_k26 49), (z_k26 50), (z_k26 51), (z_k26 52), (z_k26 53), (z_k26 54), (z_k26 55), (z_k26 56), (z_k26 57), (z_k26 58), (z_k26 59), (z_k26 60), (z_k26 61), (z_k26 62), (z_k26 63), (z_k26 64), (z_k26 65), (z_k26 66), (z_k26 67), (z_k26 68), (z_k26 69), (z_k26 70), (z_k26 71), (z_k26 72), (z_k26 73), (z_k26 74), (z_k26 75), (z_k26 76), (z_k26 77), (z_k26 78), (z_k26 79), (z_k26 80), (z_k26 81), (z_k26 82), (z_k26 83), (.tuple #[(.slice A79 ((levelL bs28).length) c80), (i64 0)]), (.slice (some ⟨gla, 0, none⟩) bs28.length ca), (.tuple #[(.slice A79 ((levelL bs28).length) c80), (i64 0)]), (.slice A79 ((levelL bs28).length) c80), (i64 0), (z_k85 89), (z_k85 90), (z_k85 91), (z_k85 92), (z_k85 93), (z_k85 94), (z_k85 95), (z_k85 96), (z_k85 97), (z_k85 98), (z_k85 99), (z_k85 100), (z_k85 101), (z_k85 102), (z_k85 103), (z_k85 104), (z_k85 105), (z_k85 106), (z_k85 107), (z_k85 108), (z_k85 109), (z_k85 110), (z_k85 111), (z_k85 112), (z_k85 113), (z_k85 114), (z_k85 115), undef, undef, undef, undef, undef, undef, undef, undef, undef, undef, undef, undef, undef, undef, undef, undef, undef, undef]) [] ∧ d = qs.length - k85 ∧ k85 ≤ qs.length ∧ Ext [] w0 w ∧ Ls SLs.cells 1 w gl A qs ∧ Lls N3.cells 3 w qs ∧ Blk w gla 25 ((cs86).flatMap Bok.cells ++ resta) ∧ Ls Bok.cells 1 w gla (some ⟨gla, 0, none⟩) cs86 ∧ Bks w cs86 ∧ Ls N3.cells 3 w g81 A79 (levelL bs28) ∧ (cs86.length = qs.length) ∧ ((cs86.map Bok.b).Nodup) ∧ (cs86.map Bok.b = bs28.map Bok.b) ∧ (∀ q ∈ cs86, w0.heap.size ≤ q.b) ∧ (t87 = k85 * qs.length) ∧ (GInv n.toNat qs.length (bs28.map Bok.xs) (cs86.map Bok.xs) t87)) (qs.length - 0) ?_ ?_
              · exact ⟨0, bs28, 0, (lk [(i64 n), (.slice A qs.length c), undef, undef, (z_k26 4), (i64 (qs.length : Int)), (.slice (some ⟨gla, 0, none⟩) bs28.length ca), (i64 (k26 : Int)), (z_k26 8), (z_k26 9), (.slice A79 ((levelL bs28).length) c80), (i64 0), (i64 0), undef, undef, (.slice A qs.length c), (i64 (qs.length : Int)), (i64 n), (.bool (decide (n < 1))), (.bool (decide (n < 1))), (i64 n), (.bool (decide (30 < n))), (.bool (decide (30 < n))), (.bool (decide (30 < n))), (i64 (qs.length : Int)), (.bool (decide ((qs.length : Int) < 1))), (.bool (decide ((qs.length : Int) < 1))), (.bool (decide ((qs.length : Int) < 1))), (i64 (qs.length : Int)), (.bool (decide (6 < (qs.length : Int)))), (.bool (decide (6 < (qs.length : Int)))), (.bool (decide (6 < (qs.length : Int)))), (i64 (qs.length : Int)), (i64 n), (.bool (decide (n < (qs.length : Int)))), (.bool (decide (n < (qs.length : Int)))), undef, (i64 (k26 : Int)), (i64 (qs.length : Int)), (.bool (decide ((k26 : Int) < (qs.length : Int)))), (z_k26 40), (z_k26 41), (z_k26 42), (z_k26 43), (z_k26 44), (z_k26 45), (z_k26 46), (z_k26 47), (z_k26 48), (z_k26 49), (z_k26 50), (z_k26 51), (z_k26 52), (z_k26 53), (z_k26 54), (z_k26 55), (z_k26 56), (z_k26 57), (z_k26 58), (z_k26 59), (z_k26 60), (z_k26 61), (z_k26 62), (z_k26 63), (z_k26 64), (z_k26 65), (z_k26 66), (z_k26 67), (z_k26 68), (z_k26 69), (z_k26 70), (z_k26 71), (z_k26 72), (z_k26 73), (z_k26 74), (z_k26 75), (z_k26 76), (z_k26 77), (z_k26 78), (z_k26 79), (z_k26 80), (z_k26 81), (z_k26 82), (z_k26 83), (.tuple #[(.slice A79 ((levelL bs28).length) c80), (i64 0)]), (.slice (some ⟨gla, 0, none⟩) bs28.length ca), (.tuple #[(.slice A79 ((levelL bs28).length) c80), (i64 0)]), (.slice A79 ((levelL bs28).length) c80), (i64 0), undef, undef, undef, undef, undef, undef, undef, undef, undef, undef, undef, undef, undef, undef, undef, undef, undef, undef, undef, undef, undef, undef, undef, undef, undef, undef, undef, undef, undef, undef, undef, undef, undef, undef, undef, undef, undef, undef, undef, undef, undef, undef, undef, undef, undef]), Fr_congr (by kernel_rfl), rfl, Nat.zero_le _, hE, hl, hL, hba, hla, hBs, hl82, hbk, hbn, rfl, hbo, by simp, hgi⟩
              clear hE
              clear hl
              clear hL
              clear hba
              clear hla
              clear hBs
              clear hl82
              rintro d a w88 ⟨k85, cs86, t87, z_k85, rfl, rfl, hlek85, hE, hl, hL, hba, hla, hBs, hl82, hcl, hcn, hcb, hlo, hct, hci⟩
              refine c_seq ?_
              refine c_rs ?_
              refine s1 (v := (i64 (k85 : Int))) (rn_mv rfl) ?_
              refine s1 (v := (i64 (qs.length : Int))) (rn_mv rfl) ?_
              refine s1 (v := (.bool (decide ((k85 : Int) < (qs.length : Int))))) (rn_lss (m := (k85 : Int)) (n := (qs.length : Int)) rfl rfl) ?_
              refine w_end ?_
              refine c_if (b := (decide ((k85 : Int) < (qs.length : Int)))) rfl (fun h89 => ?_) (fun h89 => ?_)
              ·
                have p90 := of_decide_eq_true h89
                refine c_skip' ?_
                refine t_norm ?_
                refine c_seq ?_
                refine c_block ?_
                refine c_rs ?_
                refine s1 (v := (i64 0)) (rn_as rfl) ?_
                refine w_end ?_
                refine c_block ?_
                refine c_loop (fun d a w => ∃ (k91 : Nat) (cs92 : List Bok) (t93 : Nat) (z_k91 : Nat → Value) , a = Fr 134 (lk [(i64 n), (.slice A qs.length c), undef, undef, (z_k26 4), (i64 (qs.length : Int)), (.slice (some ⟨gla, 0, none⟩) bs28.length ca), (i64 (k26 : Int)), (z_k26 8), (z_k26 9), (.slice A79 ((levelL bs28).length) c80), (i64 0), (i64 (k85 : Int)), (i64 (k91 : Int)), undef, (.slice A qs.length c), (i64 (qs.length : Int)), (i64 n), (.bool (decide (n < 1))), (.bool (decide (n < 1))), (i64 n), (.bool (decide (30 < n))), (.bool (decide (30 < n))), (.bool (decide (30 < n))), (i64 (qs.length : Int)), (.bool (decide ((qs.length : Int) < 1))), (.bool (decide ((qs.length : Int) < 1))), (.bool (decide ((qs.length : Int) < 1))), (i64 (qs.length : Int)), (.bool (decide (6 < (qs.length : Int)))), (.bool (decide (6 < (qs.length : Int)))), (.bool (decide (6 < (qs.length : Int)))), (i64 (qs.length : Int)), (i64 n), (.bool (decide (n < (qs.length : Int)))), (.bool (decide (n < (qs.length : Int)))), undef, (i64 (k26 : Int)), (i64 (qs.length : Int)), (.bool (decide ((k26 : Int) < (qs.length : Int)))), (z_k26 40), (z_k26 41), (z_k26 42), (z_k26 43), (z_k26 44), (z_k26 45), (z_k26 46), (z_k26 47), (z_k26 48), (z_k26 49), (z_k26 50), (z_k26 51), (z_k26 52), (z_k26 53), (z_k26 54), (z_k26 55), (z_k26 56), (z_k26 57), (z_k26 58), (z_k26 59), (z_k26 60), (z_k26 61), (z_k26 62), (z_k26 63), (z_k26 64), (z_k26 65), (z_k26 66), (z_k26 67), (z_k26 68), (z_k26 69), (z_k26 70), (z_k26 71), (z_k26 72), (z_k26 73), (z_k26 74), (z_k26 75), (z_k26 76), (z_k26 77), (z_k26 78), (z_k26 79), (z_k26 80), (z_k26 81), (z_k26 82), (z_k26 83), (.tuple #[(.slice A79 ((levelL bs28).length) c80), (i64 0)]), (.slice (some ⟨gla, 0, none⟩) bs28.length ca), (.tuple #[(.slice A79 ((levelL bs28).length) c80), (i64 0)]), (.slice A79 ((levelL bs28).length) c80), (i64 0), (i64 (k85 : Int)), (i64 (qs.length : Int)), (.bool (decide ((k85 : Int) < (qs.length : Int)))), (z_k85 92), (z_k85 93), (z_k91 94), (z_k91 95), (z_k91 96), (z_k91 97), (z_k91 98), (z_k91 99), (z_k91 100), (z_k91 101), (z_k91 102), (z_k91 103), (z_k91 104), (z_k91 105), (z_k91 106), (z_k91 107), (z_k91 108), (z_k91 109), (z_k91 110), (z_k91 111), (z_k91 112), (z_k91 113), (z_k91 114), (z_k91 115), undef, undef, undef, undef, undef, undef, undef, undef, undef, undef, undef, undef, undef, undef, undef, undef, undef, undef]) [] ∧ d = qs.length - k91 ∧ k91 ≤ qs.length ∧ Ext [] w0 w ∧ Ls SLs.cells 1 w gl A qs ∧ Lls N3.cells 3 w qs ∧ Blk w gla 25 ((cs92).flatMap Bok.cells ++ resta) ∧ Ls Bok.cells 1 w gla (some ⟨gla, 0, none⟩) cs92 ∧ Bks w cs92 ∧ Ls N3.cells 3 w g81 A79 (levelL bs28) ∧ (cs92.length = qs.length) ∧ ((cs92.map Bok.b).Nodup) ∧ (cs92.map Bok.b = bs28.map Bok.b) ∧ (∀ q ∈ cs92, w0.heap.size ≤ q.b) ∧ (t93 = k85 * qs.length + k91) ∧ (GInv n.toNat qs.length (bs28.map Bok.xs) (cs92.map Bok.xs) t93)) (qs.length - 0) ?_ ?_
                · exact ⟨0, cs86, t87, (lk [(i64 n), (.slice A qs.length c), undef, undef, (z_k26 4), (i64 (qs.length : Int)), (.slice (some ⟨gla, 0, none⟩) bs28.length ca), (i64 (k26 : Int)), (z_k26 8), (z_k26 9), (.slice A79 ((levelL bs28).length) c80), (i64 0), (i64 (k85 : Int)), (i64 0), undef, (.slice A qs.length c), (i64 (qs.length : Int)), (i64 n), (.bool (decide (n < 1))), (.bool (decide (n < 1))), (i64 n), (.bool (decide (30 < n))), (.bool (decide (30 < n))), (.bool (decide (30 < n))), (i64 (qs.length : Int)), (.bool (decide ((qs.length : Int) < 1))), (.bool (decide ((qs.length : Int) < 1))), (.bool (decide ((qs.length : Int) < 1))), (i64 (qs.length : Int)), (.bool (decide (6 < (qs.length : Int)))), (.bool (decide (6 < (qs.length : Int)))), (.bool (decide (6 < (qs.length : Int)))), (i64 (qs.length : Int)), (i64 n), (.bool (decide (n < (qs.length : Int)))), (.bool (decide (n < (qs.length : Int)))), undef, (i64 (k26 : Int)), (i64 (qs.length : Int)), (.bool (decide ((k26 : Int) < (qs.length : Int)))), (z_k26 40), (z_k26 41), (z_k26 42), (z_k26 43), (z_k26 44), (z_k26 45), (z_k26 46), (z_k26 47), (z_k26 48), (z_k26 49), (z_k26 50), (z_k26 51), (z_k26 52), (z_k26 53), (z_k26 54), (z_k26 55), (z_k26 56), (z_k26 57), (z_k26 58), (z_k26 59), (z_k26 60), (z_k26 61), (z_k26 62), (z_k26 63), (z_k26 64), (z_k26 65), (z_k26 66), (z_k26 67), (z_k26 68), (z_k26 69), (z_k26 70), (z_k26 71), (z_k26 72), (z_k26 73), (z_k26 74), (z_k26 75), (z_k26 76), (z_k26 77), (z_k26 78), (z_k26 79), (z_k26 80), (z_k26 81), (z_k26 82), (z_k26 83), (.tuple #[(.slice A79 ((levelL bs28).length) c80), (i64 0)]), (.slice (some ⟨gla, 0, none⟩) bs28.length ca), (.tuple #[(.slice A79 ((levelL bs28).length) c80), (i64 0)]), (.slice A79 ((levelL bs28).length) c80), (i64 0), (i64 (k85 : Int)), (i64 (qs.length : Int)), (.bool (decide ((k85 : Int) < (qs.length : Int)))), (z_k85 92), (z_k85 93), (z_k85 94), (z_k85 95), (z_k85 96), (z_k85 97), (z_k85 98), (z_k85 99), (z_k85 100), (z_k85 101), (z_k85 102), (z_k85 103), (z_k85 104), (z_k85 105), (z_k85 106), (z_k85 107), (z_k85 108), (z_k85 109), (z_k85 110), (z_k85 111), (z_k85 112), (z_k85 113), (z_k85 114), (z_k85 115), undef, undef, undef, undef, undef, undef, undef, undef, undef, undef, undef, undef, undef, undef, undef, undef, undef, undef]), Fr_congr (by kernel_rfl), rfl, Nat.zero_le _, hE, hl, hL, hba, hla, hBs, hl82, hcl, hcn, hcb, hlo, (by omega), hci⟩
                clear hE
                clear hl
                clear hL
                clear hba
                clear hla
                clear hBs
                clear hl82
                rintro d a w94 ⟨k91, cs92, t93, z_k91, rfl, rfl, hlek91, hE, hl, hL, hba, hla, hBs, hl82, hcl, hcn, hcb, hlo, hct, hci⟩
                have hge : ∀ q ∈ cs92, GB n.toNat qs.length q.xs := fun q hq => by obtain ⟨i_, hi_⟩ := List.getElem?_of_mem hq; exact hci.2.1 i_ q.xs (by rw [List.getElem?_map, hi_]; rfl)
                have hnb := hba.neBks hBs (by decide) (by decide)
                refine c_seq ?_
                refine c_rs ?_
                refine s1 (v := (i64 (k91 : Int))) (rn_mv rfl) ?_
                refine s1 (v := (i64 (qs.length : Int))) (rn_mv rfl) ?_
                refine s1 (v := (.bool (decide ((k91 : Int) < (qs.length : Int))))) (rn_lss (m := (k91 : Int)) (n := (qs.length : Int)) rfl rfl) ?_
                refine w_end ?_
                refine c_if (b := (decide ((k91 : Int) < (qs.length : Int)))) rfl (fun h95 => ?_) (fun h95 => ?_)
                ·
                  have p96 := of_decide_eq_true h95
                  refine c_skip' ?_
                  refine t_norm ?_
                  refine c_seq ?_
                  refine c_block ?_
                  obtain ⟨jk91, hjk91⟩ : ∃ j, j = (k91 + 1) % qs.length := ⟨_, rfl⟩
                  have hltjk91 : jk91 < qs.length := by rw [hjk91]; exact Nat.mod_lt _ (by omega)
                  have hcljk91 := hcl
                  obtain ⟨x100, o97, hx101, hA98, el99⟩ := hla.el (k := jk91) (by omega)
                  have hltjk91 : jk91 < qs.length := by rw [hjk91]; exact Nat.mod_lt _ (by omega)
                  have hcljk91 := hcl
                  obtain ⟨x105, o102, hx106, hA103, el104⟩ := hla.el (k := k91) (by omega)
                  refine c_dr (n := 16) [.c (.slice (some ⟨gla, 0, none⟩) bs28.length ca), .c (i64 (k91 : Int)), .c (i64 ((k91 : Int) + 1)), .c (i64 (qs.length : Int)), .c (i64 (jk91 : Int)), .c (ptr gla (o97 + jk91 * 1)), .c (ptr x100.p 0), .c (i64 (k91 : Int)), .c (i64 ((k91 : Int) + 1)), .c (i64 (qs.length : Int)), .c (i64 (jk91 : Int)), .c (.slice (some ⟨gla, 0, none⟩) bs28.length ca), .c (i64 (k91 : Int)), .c (ptr gla (o102 + k91 * 1)), .c (ptr x105.p 0), .s (SLf N3.cells 3 w94.heap.size (newsOf x105.xs))] rfl mixed (by kernel_rfl) ?_
                  refine q_v (v := (.slice (some ⟨gla, 0, none⟩) bs28.length ca)) (fun W hC => rn_mv rfl) ?_
                  refine q_v (v := (i64 (k91 : Int))) (fun W hC => rn_mv rfl) ?_
                  refine q_v (v := (i64 ((k91 : Int) + 1))) (fun W hC => rn_add (m := (k91 : Int)) (n := 1) rfl rfl (wr64 (by omega) (by omega))) ?_
                  refine q_v (v := (i64 (qs.length : Int))) (fun W hC => rn_mv rfl) ?_
                  refine q_v (v := (i64 (jk91 : Int))) (fun W hC => rn_rem (m := (k91 : Int) + 1) (n := (qs.length : Int)) rfl rfl (by omega) (by rw [hjk91]; rfl)) ?_
                  refine q_v (v := (ptr gla (o97 + jk91 * 1))) (fun W hC => rn_ie is93 rfl hA98 rfl (by omega) (by omega) rfl) ?_
                  refine q_v (v := (ptr x100.p 0)) (fun W hC => rn_ld1 o25 rfl ((el99.ext0 hC) 0 _ rfl)) ?_
                  refine q_v (v := (i64 (k91 : Int))) (fun W hC => rn_mv rfl) ?_
                  refine q_v (v := (i64 ((k91 : Int) + 1))) (fun W hC => rn_add (m := (k91 : Int)) (n := 1) rfl rfl (wr64 (by omega) (by omega))) ?_
                  refine q_v (v := (i64 (qs.length : Int))) (fun W hC => rn_mv rfl) ?_
                  refine q_v (v := (i64 (jk91 : Int))) (fun W hC => rn_rem (m := (k91 : Int) + 1) (n := (qs.length : Int)) rfl rfl (by omega) (by rw [hjk91]; rfl)) ?_
                  refine q_v (v := (.slice (some ⟨gla, 0, none⟩) bs28.length ca)) (fun W hC => rn_mv rfl) ?_
                  refine q_v (v := (i64 (k91 : Int))) (fun W hC => rn_mv rfl) ?_
                  refine q_v (v := (ptr gla (o102 + k91 * 1))) (fun W hC => rn_ie is93 rfl hA103 rfl (by omega) (by omega) rfl) ?_
                  refine q_v (v := (ptr x105.p 0)) (fun W hC => rn_ld1 o25 rfl ((el104.ext0 hC) 0 _ rfl)) ?_
                  have hgY := hge x105 (List.mem_of_getElem? hx106)
                  have hY100 := hgY.1.1
                  refine q_callS (SLf N3.cells 3 w94.heap.size (newsOf x105.xs)) (fun _ _ _ _ _ h x => h.ext0 x) e49 (vs := [(ptr x105.p 0)]) rfl (fun W hC _ => (have hsz_ := hC.size; slf_of (by simp) (by omega) (Ride_c ((hBs.ext0 hC) x105 (List.mem_of_getElem? hx106)) (by first | omega | (simp only [absR_len, mergeR_len, newL_len]; omega))))) (fun v116 lov116 hiv116 => ?_)
                  refine ob_end (fun w117 x118 he119 hap120 => ?_)
                  obtain ⟨A121, c122, g123, rfl, hl124, jg123⟩ := he119 15
                  have gg123 := jg123.imp_left (fun q => q.1)
                  have dbg123 : ∀ q ∈ cs92, (q.p < g123 ∧ q.b < g123) ∨ ((newsOf x105.xs)).length = 0 := fun q hq => gg123.imp_left (fun q_ => ⟨Nat.lt_of_lt_of_le (hBs q hq).ltp q_, Nat.lt_of_lt_of_le (hBs q hq).ltb q_⟩)
                  have dg123 := gg123.imp_left (fun q => Nat.le_trans hE.size q)
                  clear gg123
                  replace hE := hE.step0 x118
                  replace el99 := el99.ext0 x118
                  replace el104 := el104.ext0 x118
                  replace hl := hl.ext0 x118
                  replace hL := hL.ext0 x118
                  replace hba := hba.ext0 x118
                  replace hla := hla.ext0 x118
                  replace hBs := hBs.ext0 x118
                  replace hl82 := hl82.ext0 x118
                  clear x118
                  have hgX := hge x100 (List.mem_of_getElem? hx101)
                  have hnX := hnb x100 (List.mem_of_getElem? hx101)
                  have hXl := hgX.2.1
                  have hX100 := hgX.1.1
                  have hBX := hBs x100 (List.mem_of_getElem? hx101)
                  have hgY := hge x105 (List.mem_of_getElem? hx106)
                  have hY100 := hgY.1.1
                  have hnl : (newsOf x105.xs).length ≤ x105.xs.length := List.length_filter_le _ _
                  have hgg := dbg123 x100 (List.mem_of_getElem? hx101)
                  refine s_call e23 (vs := [(ptr x100.p 0), (i64 (jk91 : Int)), (.slice A121 ((newsOf x105.xs).length) c122)]) rfl (Absorb_c (l := (newsOf x105.xs)) (gl := g123) (c := c122) hBX (jk91 : Int) hl124 (by omega) (by omega) (by omega)) ?_
                  rintro _ w125 ⟨rfl, hB126, x127⟩
                  have hltX := hBX.ltb
                  have hnE := hE.size
                  have hBn := Bks_set hBs x127 hx101 hB126 hcn
                  have hwb : w0.heap.size ≤ x100.b := hlo x100 (List.mem_of_getElem? hx101)
                  obtain ⟨rX, hrX, erX⟩ := List.mem_map.1 (show x100.b ∈ bs28.map Bok.b by rw [← hcb]; exact List.mem_map_of_mem (List.mem_of_getElem? hx101))
                  have hdX := dbg81 rX hrX
                  replace hE := hE.step1 x127 (by first | (left; simp; done) | (right; omega))
                  replace hl := hl.ext1 x127 (by omega)
                  replace hL := hL.ext1 x127 (fun q hq => by have h_ := hLlt q hq; omega)
                  replace hba := hba.ext1 x127 (by omega)
                  replace hl82 := hl82.ext1 x127 (by omega)
                  clear x127
                  replace hBs := hBn; clear hBn
                  rw [← setB_cells (X := (absR (jk91 : Int) x100.xs (newsOf x105.xs))) hx101] at hba
                  have hlan : Ls Bok.cells 1 w125 gla (some ⟨gla, 0, none⟩) (setB cs92 jk91 (absR (jk91 : Int) x100.xs (newsOf x105.xs))) := Ls.of_blk (fun _ => rfl) hba
                  replace hla := hlan; clear hlan
                  have hcN := ginv_step hci (by omega) (by omega) (by omega) (i := k91) (j := jk91) (by rw [hct, Nat.mul_comm, Nat.mul_add_mod]; exact (Nat.mod_eq_of_lt (by omega)).symm) hjk91 (Y := x105.xs) (X := x100.xs) (by rw [List.getElem?_map, hx106]; rfl) (by rw [List.getElem?_map, hx101]; rfl)
                  rw [← setB_xs hx101] at hcN
                  refine w_nil ?_
                  refine b_norm ?_
                  refine t_norm ?_
                  refine c_r ?_
                  refine s1 (v := (i64 (k91 : Int))) (rn_mv rfl) ?_
                  refine s1 (v := (i64 ((k91 : Int) + 1))) (rn_add (m := (k91 : Int)) (n := 1) rfl rfl (wr64 (by omega) (by omega))) ?_
                  refine s1 (v := (i64 ((k91 : Int) + 1))) (rn_as rfl) ?_
                  refine w_nil ?_
                  refine t_norm ?_
                  exact ⟨qs.length - (k91 + 1), by omega, k91 + 1, (setB cs92 jk91 (absR (jk91 : Int) x100.xs (newsOf x105.xs))), (t93 + 1), (lk [(i64 n), (.slice A qs.length c), undef, undef, (z_k26 4), (i64 (qs.length : Int)), (.slice (some ⟨gla, 0, none⟩) bs28.length ca), (i64 (k26 : Int)), (z_k26 8), (z_k26 9), (.slice A79 ((levelL bs28).length) c80), (i64 0), (i64 (k85 : Int)), (i64 ((k91 : Int) + 1)), undef, (.slice A qs.length c), (i64 (qs.length : Int)), (i64 n), (.bool (decide (n < 1))), (.bool (decide (n < 1))), (i64 n), (.bool (decide (30 < n))), (.bool (decide (30 < n))), (.bool (decide (30 < n))), (i64 (qs.length : Int)), (.bool (decide ((qs.length : Int) < 1))), (.bool (decide ((qs.length : Int) < 1))), (.bool (decide ((qs.length : Int) < 1))), (i64 (qs.length : Int)), (.bool (decide (6 < (qs.length : Int)))), (.bool (decide (6 < (qs.length : Int)))), (.bool (decide (6 < (qs.length : Int)))), (i64 (qs.length : Int)), (i64 n), (.bool (decide (n < (qs.length : Int)))), (.bool (decide (n < (qs.length : Int)))), undef, (i64 (k26 : Int)), (i64 (qs.length : Int)), (.bool (decide ((k26 : Int) < (qs.length : Int)))), (z_k26 40), (z_k26 41), (z_k26 42), (z_k26 43), (z_k26 44), (z_k26 45), (z_k26 46), (z_k26 47), (z_k26 48), (z_k26 49), (z_k26 50), (z_k26 51), (z_k26 52), (z_k26 53), (z_k26 54), (z_k26 55), (z_k26 56), (z_k26 57), (z_k26 58), (z_k26 59), (z_k26 60), (z_k26 61), (z_k26 62), (z_k26 63), (z_k26 64), (z_k26 65), (z_k26 66), (z_k26 67), (z_k26 68), (z_k26 69), (z_k26 70), (z_k26 71), (z_k26 72), (z_k26 73), (z_k26 74), (z_k26 75), (z_k26 76), (z_k26 77), (z_k26 78), (z_k26 79), (z_k26 80), (z_k26 81), (z_k26 82), (z_k26 83), (.tuple #[(.slice A79 ((levelL bs28).length) c80), (i64 0)]), (.slice (some ⟨gla, 0, none⟩) bs28.length ca), (.tuple #[(.slice A79 ((levelL bs28).length) c80), (i64 0)]), (.slice A79 ((levelL bs28).length) c80), (i64 0), (i64 (k85 : Int)), (i64 (qs.length : Int)), (.bool (decide ((k85 : Int) < (qs.length : Int)))), (z_k85 92), (z_k85 93), (i64 (k91 : Int)), (i64 (qs.length : Int)), (.bool (decide ((k91 : Int) < (qs.length : Int)))), (i64 (k91 : Int)), (i64 ((k91 : Int) + 1)), (.slice (some ⟨gla, 0, none⟩) bs28.length ca), (i64 (k91 : Int)), (i64 ((k91 : Int) + 1)), (i64 (qs.length : Int)), (i64 (jk91 : Int)), (ptr gla (o97 + jk91 * 1)), (ptr x100.p 0), (i64 (k91 : Int)), (i64 ((k91 : Int) + 1)), (i64 (qs.length : Int)), (i64 (jk91 : Int)), (.slice (some ⟨gla, 0, none⟩) bs28.length ca), (i64 (k91 : Int)), (ptr gla (o102 + k91 * 1)), (ptr x105.p 0), (.slice A121 ((newsOf x105.xs).length) c122), (.tuple #[(S4.val (absS (jk91 : Int) x100.xs (newsOf x105.xs))), (i64 (absE x100.xs (newsOf x105.xs)))]), undef, undef, undef, undef, undef, undef, undef, undef, undef, undef, undef, undef, undef, undef, undef, undef, undef, undef]), Fr_congr (by kernel_rfl), rfl, by omega, hE, hl, hL, hba, hla, hBs, hl82, (by rw [setB_len hx101]; exact hcl), (by rw [setB_b hx101]; exact hcn), (by rw [setB_b hx101]; exact hcb), (fun q_ h_ => by obtain ⟨r_, hr_, e_⟩ : ∃ r ∈ cs92, r.b = q_.b := by { have h1_ := List.mem_map_of_mem (f := Bok.b) h_; rw [setB_b hx101] at h1_; exact List.mem_map.1 h1_ }; rw [← e_]; exact hlo r_ hr_), (by omega), hcN⟩
                ·
                  have p128 := of_decide_eq_false h95
                  refine c_exit ?_
                  refine t_exit ?_
                  refine t_exit ?_
                  refine b_here ?_
                  refine b_norm ?_
                  refine t_norm ?_
                  refine c_r ?_
                  refine s1 (v := (i64 (k85 : Int))) (rn_mv rfl) ?_
                  refine s1 (v := (i64 ((k85 : Int) + 1))) (rn_add (m := (k85 : Int)) (n := 1) rfl rfl (wr64 (by omega) (by omega))) ?_
                  refine s1 (v := (i64 ((k85 : Int) + 1))) (rn_as rfl) ?_
                  refine w_nil ?_
                  refine t_norm ?_
                  exact ⟨qs.length - (k85 + 1), by omega, k85 + 1, cs92, t93, (lk [(i64 n), (.slice A qs.length c), undef, undef, (z_k26 4), (i64 (qs.length : Int)), (.slice (some ⟨gla, 0, none⟩) bs28.length ca), (i64 (k26 : Int)), (z_k26 8), (z_k26 9), (.slice A79 ((levelL bs28).length) c80), (i64 0), (i64 ((k85 : Int) + 1)), (i64 (k91 : Int)), undef, (.slice A qs.length c), (i64 (qs.length : Int)), (i64 n), (.bool (decide (n < 1))), (.bool (decide (n < 1))), (i64 n), (.bool (decide (30 < n))), (.bool (decide (30 < n))), (.bool (decide (30 < n))), (i64 (qs.length : Int)), (.bool (decide ((qs.length : Int) < 1))), (.bool (decide ((qs.length : Int) < 1))), (.bool (decide ((qs.length : Int) < 1))), (i64 (qs.length : Int)), (.bool (decide (6 < (qs.length : Int)))), (.bool (decide (6 < (qs.length : Int)))), (.bool (decide (6 < (qs.length : Int)))), (i64 (qs.length : Int)), (i64 n), (.bool (decide (n < (qs.length : Int)))), (.bool (decide (n < (qs.length : Int)))), undef, (i64 (k26 : Int)), (i64 (qs.length : Int)), (.bool (decide ((k26 : Int) < (qs.length : Int)))), (z_k26 40), (z_k26 41), (z_k26 42), (z_k26 43), (z_k26 44), (z_k26 45), (z_k26 46), (z_k26 47), (z_k26 48), (z_k26 49), (z_k26 50), (z_k26 51), (z_k26 52), (z_k26 53), (z_k26 54), (z_k26 55), (z_k26 56), (z_k26 57), (z_k26 58), (z_k26 59), (z_k26 60), (z_k26 61), (z_k26 62), (z_k26 63), (z_k26 64), (z_k26 65), (z_k26 66), (z_k26 67), (z_k26 68), (z_k26 69), (z_k26 70), (z_k26 71), (z_k26 72), (z_k26 73), (z_k26 74), (z_k26 75), (z_k26 76), (z_k26 77), (z_k26 78), (z_k26 79), (z_k26 80), (z_k26 81), (z_k26 82), (z_k26 83), (.tuple #[(.slice A79 ((levelL bs28).length) c80), (i64 0)]), (.slice (some ⟨gla, 0, none⟩) bs28.length ca), (.tuple #[(.slice A79 ((levelL bs28).length) c80), (i64 0)]), (.slice A79 ((levelL bs28).length) c80), (i64 0), (i64 (k85 : Int)), (i64 (qs.length : Int)), (.bool (decide ((k85 : Int) < (qs.length : Int)))), (i64 (k85 : Int)), (i64 ((k85 : Int) + 1)), (i64 (k91 : Int)), (i64 (qs.length : Int)), (.bool (decide ((k91 : Int) < (qs.length : Int)))), (z_k91 97), (z_k91 98), (z_k91 99), (z_k91 100), (z_k91 101), (z_k91 102), (z_k91 103), (z_k91 104), (z_k91 105), (z_k91 106), (z_k91 107), (z_k91 108), (z_k91 109), (z_k91 110), (z_k91 111), (z_k91 112), (z_k91 113), (z_k91 114), (z_k91 115), undef, undef, undef, undef, undef, undef, undef, undef, undef, undef, undef, undef, undef, undef, undef, undef, undef, undef]), Fr_congr (by kernel_rfl), rfl, by omega, hE, hl, hL, hba, hla, hBs, hl82, hcl, hcn, hcb, hlo, (by rw [Nat.succ_mul]; omega), hci⟩
              ·
                have p129 := of_decide_eq_false h89
                refine c_exit ?_
                refine t_exit ?_
                refine t_exit ?_
                refine b_here ?_
                refine t_norm ?_
                refine c_seq ?_
                refine c_rs ?_
                refine s1 (v := (i64 0)) (rn_as rfl) ?_
                refine w_end ?_
                refine c_block ?_
                have hkk : k85 = qs.length := by omega
                have htt : 2 * qs.length ≤ t87 + 2 := by rw [hct, hkk]; exact two_le (by omega)
                have hge : ∀ q ∈ cs86, GB n.toNat qs.length q.xs := fun q hq => by obtain ⟨i_, hi_⟩ := List.getElem?_of_mem hq; exact hci.2.1 i_ q.xs (by rw [List.getElem?_map, hi_]; rfl)
                refine c_loop (fun d a w => ∃ (k130 : Nat) (z_k130 : Nat → Value) , a = Fr 134 (lk [(i64 n), (.slice A qs.length c), undef, undef, (z_k130 4), (i64 (qs.length : Int)), (.slice (some ⟨gla, 0, none⟩) bs28.length ca), (i64 (k26 : Int)), (z_k26 8), (z_k26 9), (.slice A79 ((levelL bs28).length) c80), (i64 0), (i64 (k85 : Int)), (z_k85 13), (i64 (k130 : Int)), (.slice A qs.length c), (i64 (qs.length : Int)), (i64 n), (.bool (decide (n < 1))), (.bool (decide (n < 1))), (i64 n), (.bool (decide (30 < n))), (.bool (decide (30 < n))), (.bool (decide (30 < n))), (i64 (qs.length : Int)), (.bool (decide ((qs.length : Int) < 1))), (.bool (decide ((qs.length : Int) < 1))), (.bool (decide ((qs.length : Int) < 1))), (i64 (qs.length : Int)), (.bool (decide (6 < (qs.length : Int)))), (.bool (decide (6 < (qs.length : Int)))), (.bool (decide (6 < (qs.length : Int)))), (i64 (qs.length : Int)), (i64 n), (.bool (decide (n < (qs.length : Int)))), (.bool (decide (n < (qs.length : Int)))), undef, (i64 (k26 : Int)), (i64 (qs.length : Int)), (.bool (decide ((k26 : Int) < (qs.length : Int)))), (z_k26 40), (z_k26 41), (z_k26 42), (z_k26 43), (z_k26 44), (z_k26 45), (z_k26 46), (z_k26 47), (z_k26 48), (z_k26 49), (z_k26 50), (z_k26 51), (z_k26 52), (z_k26 53), (z_k26 54), (z_k26 55), (z_k26 56), (z_k26 57), (z_k26 58), (z_k26 59), (z_k26 60), (z_k26 61), (z_k26 62), (z_k26 63), (z_k26 64), (z_k26 65), (z_k26 66), (z_k26 67), (z_k26 68), (z_k26 69), (z_k26 70), (z_k26 71), (z_k26 72), (z_k26 73), (z_k26 74), (z_k26 75), (z_k26 76), (z_k26 77), (z_k26 78), (z_k26 79), (z_k26 80), (z_k26 81), (z_k26 82), (z_k26 83), (.tuple #[(.slice A79 ((levelL bs28).length) c80), (i64 0)]), (.slice (some ⟨gla, 0, none⟩) bs28.length ca), (.tuple #[(.slice A79 ((levelL bs28).length) c80), (i64 0)]), (.slice A79 ((levelL bs28).length) c80), (i64 0), (i64 (k85 : Int)), (i64 (qs.length : Int)), (.bool (decide ((k85 : Int) < (qs.length : Int)))), (z_k85 92), (z_k85 93), (z_k85 94), (z_k85 95), (z_k85 96), (z_k85 97), (z_k85 98), (z_k85 99), (z_k85 100), (z_k85 101), (z_k85 102), (z_k85 103), (z_k85 104), (z_k85 105), (z_k85 106), (z_k85 107), (z_k85 108), (z_k85 109), (z_k85 110), (z_k85 111), (z_k85 112), (z_k85 113), (z_k85 114), (z_k85 115), (z_k130 116), (z_k130 117), (z_k130 118), (z_k130 119), (z_k130 120), (z_k130 121), (z_k130 122), (z_k130 123), (z_k130 124), (z_k130 125), (z_k130 126), (z_k130 127), (z_k130 128), undef, undef, undef, undef, undef]) [] ∧ d = qs.length - k130 ∧ k130 ≤ qs.length ∧ Ext [] w0 w ∧ Ls SLs.cells 1 w gl A qs ∧ Lls N3.cells 3 w qs ∧ Ls Bok.cells 1 w gla (some ⟨gla, 0, none⟩) cs86 ∧ Bks w cs86 ∧ Ls N3.cells 3 w g81 A79 (levelL bs28)) (qs.length - 0) ?_ ?_
                · exact ⟨0, (lk [(i64 n), (.slice A qs.length c), undef, undef, (z_k26 4), (i64 (qs.length : Int)), (.slice (some ⟨gla, 0, none⟩) bs28.length ca), (i64 (k26 : Int)), (z_k26 8), (z_k26 9), (.slice A79 ((levelL bs28).length) c80), (i64 0), (i64 (k85 : Int)), (z_k85 13), (i64 0), (.slice A qs.length c), (i64 (qs.length : Int)), (i64 n), (.bool (decide (n < 1))), (.bool (decide (n < 1))), (i64 n), (.bool (decide (30 < n))), (.bool (decide (30 < n))), (.bool (decide (30 < n))), (i64 (qs.length : Int)), (.bool (decide ((qs.length : Int) < 1))), (.bool (decide ((qs.length : Int) < 1))), (.bool (decide ((qs.length : Int) < 1))), (i64 (qs.length : Int)), (.bool (decide (6 < (qs.length : Int)))), (.bool (decide (6 < (qs.length : Int)))), (.bool (decide (6 < (qs.length : Int)))), (i64 (qs.length : Int)), (i64 n), (.bool (decide (n < (qs.length : Int)))), (.bool (decide (n < (qs.length : Int)))), undef, (i64 (k26 : Int)), (i64 (qs.length : Int)), (.bool (decide ((k26 : Int) < (qs.length : Int)))), (z_k26 40), (z_k26 41), (z_k26 42), (z_k26 43), (z_k26 44), (z_k26 45), (z_k26 46), (z_k26 47), (z_k26 48), (z_k26 49), (z_k26 50), (z_k26 51), (z_k26 52), (z_k26 53), (z_k26 54), (z_k26 55), (z_k26 56), (z_k26 57), (z_k26 58), (z_k26 59), (z_k26 60), (z_k26 61), (z_k26 62), (z_k26 63), (z_k26 64), (z_k26 65), (z_k26 66), (z_k26 67), (z_k26 68), (z_k26 69), (z_k26 70), (z_k26 71), (z_k26 72), (z_k26 73), (z_k26 74), (z_k26 75), (z_k26 76), (z_k26 77), (z_k26 78), (z_k26 79), (z_k26 80), (z_k26 81), (z_k26 82), (z_k26 83), (.tuple #[(.slice A79 ((levelL bs28).length) c80), (i64 0)]), (.slice (some ⟨gla, 0, none⟩) bs28.length ca), (.tuple #[(.slice A79 ((levelL bs28).length) c80), (i64 0)]), (.slice A79 ((levelL bs28).length) c80), (i64 0), (i64 (k85 : Int)), (i64 (qs.length : Int)), (.bool (decide ((k85 : Int) < (qs.length : Int)))), (z_k85 92), (z_k85 93), (z_k85 94), (z_k85 95), (z_k85 96), (z_k85 97), (z_k85 98), (z_k85 99), (z_k85 100), (z_k85 101), (z_k85 102), (z_k85 103), (z_k85 104), (z_k85 105), (z_k85 106), (z_k85 107), (z_k85 108), (z_k85 109), (z_k85 110), (z_k85 111), (z_k85 112), (z_k85 113), (z_k85 114), (z_k85 115), undef, undef, undef, undef, undef, undef, undef, undef, undef, undef, undef, undef, undef, undef, undef, undef, undef, undef]), Fr_congr (by kernel_rfl), rfl, Nat.zero_le _, hE, hl, hL, hla, hBs, hl82⟩
                clear hE
                clear hl
                clear hL
                clear hla
                clear hBs
                clear hl82
                rintro d a w131 ⟨k130, z_k130, rfl, rfl, hlek130, hE, hl, hL, hla, hBs, hl82⟩
                refine c_seq ?_
                refine c_rs ?_
                refine s1 (v := (i64 (k130 : Int))) (rn_mv rfl) ?_
                refine s1 (v := (i64 (qs.length : Int))) (rn_mv rfl) ?_
                refine s1 (v := (.bool (decide ((k130 : Int) < (qs.length : Int))))) (rn_lss (m := (k130 : Int)) (n := (qs.length : Int)) rfl rfl) ?_
                refine w_end ?_
                refine c_if (b := (decide ((k130 : Int) < (qs.length : Int)))) rfl (fun h132 => ?_) (fun h132 => ?_)
                ·
                  have p133 := of_decide_eq_true h132
                  refine c_skip' ?_
                  refine t_norm ?_
                  refine c_seq ?_
                  refine c_block ?_
                  refine c_rs ?_
                  refine s1 (v := (.slice (some ⟨gla, 0, none⟩) bs28.length ca)) (rn_mv rfl) ?_
                  refine s1 (v := (i64 (k130 : Int))) (rn_mv rfl) ?_
                  obtain ⟨x137, o134, hx138, hA135, el136⟩ := hla.el (k := k130) (by omega)
                  refine s1 (v := (ptr gla (o134 + k130 * 1))) (rn_ie is93 rfl hA135 rfl (by omega) (by omega) rfl) ?_
                  refine s1 (v := (ptr x137.p 0)) (rn_ld1 o25 rfl (el136 0 _ rfl)) ?_
                  have hgY := hge x137 (List.mem_of_getElem? hx138)
                  have hY100 := hgY.1.1
                  refine s_call e51 (vs := [(ptr x137.p 0)]) rfl (List_c (hBs x137 (List.mem_of_getElem? hx138)) (by first | omega | (simp only [absR_len, mergeR_len, newL_len]; omega))) ?_
                  rintro _ w143 ⟨A139, c140, g141, rfl, hl142, gg141, x144⟩
                  have dbg141 : ∀ q ∈ cs86, (q.p < g141 ∧ q.b < g141) ∨ (x137.xs).length = 0 := fun q hq => gg141.imp_left (fun q_ => ⟨Nat.lt_of_lt_of_le (hBs q hq).ltp q_, Nat.lt_of_lt_of_le (hBs q hq).ltb q_⟩)
                  have dg141 := gg141.imp_left (fun q => Nat.le_trans hE.size q)
                  clear gg141
                  replace hE := hE.step0 x144
                  replace el136 := el136.ext0 x144
                  replace hl := hl.ext0 x144
                  replace hL := hL.ext0 x144
                  replace hla := hla.ext0 x144
                  replace hBs := hBs.ext0 x144
                  replace hl82 := hl82.ext0 x144
                  clear x144
                  refine s1 (v := (.slice A79 ((levelL bs28).length) c80)) (rn_mv rfl) ?_
                  refine s_callP e50 (v := (.bool (decide (x137.xs = (levelL bs28))))) (vs := [(.slice A139 ((x137.xs).length) c140), (.slice A79 ((levelL bs28).length) c80)]) rfl (SameN_c (c := c140) (c' := c80) hl142 hl82 (by first | omega | simp)) (fun w145 x146 => ?_)
                  replace hE := hE.step0 x146
                  replace el136 := el136.ext0 x146
                  replace hl := hl.ext0 x146
                  replace hL := hL.ext0 x146
                  replace hla := hla.ext0 x146
                  replace hBs := hBs.ext0 x146
                  replace hl82 := hl82.ext0 x146
                  replace hl142 := hl142.ext0 x146
                  clear x146
                  refine s1 (v := (.bool (!(decide (x137.xs = (levelL bs28)))))) (rn_not (b := (decide (x137.xs = (levelL bs28)))) rfl) ?_
                  refine w_end ?_
                  refine c_F (b := (!(decide (x137.xs = (levelL bs28))))) rfl (by rw [(decide_eq_true (gossip_law hbg hbk hci htt (by omega) (X := x137.xs) (by rw [List.getElem?_map, hx138]; rfl)))]; rfl) ?_
                  refine c_skip' ?_
                  refine b_norm ?_
                  refine t_norm ?_
                  refine c_r ?_
                  refine s1 (v := (i64 (k130 : Int))) (rn_mv rfl) ?_
                  refine s1 (v := (i64 ((k130 : Int) + 1))) (rn_add (m := (k130 : Int)) (n := 1) rfl rfl (wr64 (by omega) (by omega))) ?_
                  refine s1 (v := (i64 ((k130 : Int) + 1))) (rn_as rfl) ?_
                  refine w_nil ?_
                  refine t_norm ?_
                  exact ⟨qs.length - (k130 + 1), by omega, k130 + 1, (lk [(i64 n), (.slice A qs.length c), undef, undef, (z_k130 4), (i64 (qs.length : Int)), (.slice (some ⟨gla, 0, none⟩) bs28.length ca), (i64 (k26 : Int)), (z_k26 8), (z_k26 9), (.slice A79 ((levelL bs28).length) c80), (i64 0), (i64 (k85 : Int)), (z_k85 13), (i64 ((k130 : Int) + 1)), (.slice A qs.length c), (i64 (qs.length : Int)), (i64 n), (.bool (decide (n < 1))), (.bool (decide (n < 1))), (i64 n), (.bool (decide (30 < n))), (.bool (decide (30 < n))), (.bool (decide (30 < n))), (i64 (qs.length : Int)), (.bool (decide ((qs.length : Int) < 1))), (.bool (decide ((qs.length : Int) < 1))), (.bool (decide ((qs.length : Int) < 1))), (i64 (qs.length : Int)), (.bool (decide (6 < (qs.length : Int)))), (.bool (decide (6 < (qs.length : Int)))), (.bool (decide (6 < (qs.length : Int)))), (i64 (qs.length : Int)), (i64 n), (.bool (decide (n < (qs.length : Int)))), (.bool (decide (n < (qs.length : Int)))), undef, (i64 (k26 : Int)), (i64 (qs.length : Int)), (.bool (decide ((k26 : Int) < (qs.length : Int)))), (z_k26 40), (z_k26 41), (z_k26 42), (z_k26 43), (z_k26 44), (z_k26 45), (z_k26 46), (z_k26 47), (z_k26 48), (z_k26 49), (z_k26 50), (z_k26 51), (z_k26 52), (z_k26 53), (z_k26 54), (z_k26 55), (z_k26 56), (z_k26 57), (z_k26 58), (z_k26 59), (z_k26 60), (z_k26 61), (z_k26 62), (z_k26 63), (z_k26 64), (z_k26 65), (z_k26 66), (z_k26 67), (z_k26 68), (z_k26 69), (z_k26 70), (z_k26 71), (z_k26 72), (z_k26 73), (z_k26 74), (z_k26 75), (z_k26 76), (z_k26 77), (z_k26 78), (z_k26 79), (z_k26 80), (z_k26 81), (z_k26 82), (z_k26 83), (.tuple #[(.slice A79 ((levelL bs28).length) c80), (i64 0)]), (.slice (some ⟨gla, 0, none⟩) bs28.length ca), (.tuple #[(.slice A79 ((levelL bs28).length) c80), (i64 0)]), (.slice A79 ((levelL bs28).length) c80), (i64 0), (i64 (k85 : Int)), (i64 (qs.length : Int)), (.bool (decide ((k85 : Int) < (qs.length : Int)))), (z_k85 92), (z_k85 93), (z_k85 94), (z_k85 95), (z_k85 96), (z_k85 97), (z_k85 98), (z_k85 99), (z_k85 100), (z_k85 101), (z_k85 102), (z_k85 103), (z_k85 104), (z_k85 105), (z_k85 106), (z_k85 107), (z_k85 108), (z_k85 109), (z_k85 110), (z_k85 111), (z_k85 112), (z_k85 113), (z_k85 114), (z_k85 115), (i64 (k130 : Int)), (i64 (qs.length : Int)), (.bool (decide ((k130 : Int) < (qs.length : Int)))), (i64 (k130 : Int)), (i64 ((k130 : Int) + 1)), (.slice (some ⟨gla, 0, none⟩) bs28.length ca), (i64 (k130 : Int)), (ptr gla (o134 + k130 * 1)), (ptr x137.p 0), (.slice A139 ((x137.xs).length) c140), (.slice A79 ((levelL bs28).length) c80), (.bool (decide (x137.xs = (levelL bs28)))), (.bool (!(decide (x137.xs = (levelL bs28))))), undef, undef, undef, undef, undef]), Fr_congr (by kernel_rfl), rfl, by omega, hE, hl, hL, hla, hBs, hl82⟩
                ·
                  have p147 := of_decide_eq_false h132
                  refine c_exit ?_
                  refine t_exit ?_
                  refine t_exit ?_
                  refine b_here ?_
                  refine t_norm ?_
                  refine c_rs ?_
                  refine s_callP e20 (v := (.bool true)) (vs := []) rfl (alive_c) (fun w148 x149 => ?_)
                  replace hE := hE.step0 x149
                  replace hl := hl.ext0 x149
                  replace hL := hL.ext0 x149
                  replace hla := hla.ext0 x149
                  replace hBs := hBs.ext0 x149
                  replace hl82 := hl82.ext0 x149
                  clear x149
                  refine s1 (v := (.bool true)) (rn_mv rfl) ?_
                  refine g_yes rfl rfl rfl rfl ?_
                  refine s1 (v := (i64 0)) (rn_mv rfl) ?_
                  refine g_yes rfl rfl rfl rfl ?_
                  refine s1 (v := (.bool true)) (rn_eql (m := 0) (n := 0) rfl rfl) ?_
                  refine s1 (v := (.bool true)) (rn_pT (b := true) rfl rfl rfl) ?_
                  refine s1 (v := (.bool true)) (rn_as rfl) ?_
                  refine w_end ?_
                  refine c_ret ?_
                  refine bp_ret (rs1 rfl (rv_tmp (v := (.bool true)) rfl)) ?_
                  exact ⟨rfl, hE⟩

end Go.Proofs.Ytfdffeameoejfaa
