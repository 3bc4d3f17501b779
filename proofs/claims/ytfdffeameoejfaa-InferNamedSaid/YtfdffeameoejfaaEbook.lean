/- ebook: printed walks. -/
import Derived.Test.YtfdffeameoejfaaTagbook
import Derived.Test.YtfdffeameoejfaaLists
namespace Go.Proofs.Ytfdffeameoejfaa
open Go Go.RowKit
set_option linter.unusedVariables false
set_option linter.unusedSimpArgs false

theorem SameN_c {A B : Option Addr} {ga gb c c' : Nat} {xs ys : List N3} {w0 : World} (hl : Ls N3.cells 3 w0 ga A xs) (hl2 : Ls N3.cells 3 w0 gb B ys) (hn : xs.length ≤ 1000000) :
    Calls Try.prog 50 [(.slice A xs.length c), (.slice B ys.length c')].toArray w0 (Ret (Pu (.bool (decide (xs = ys))) w0)) := by
  have hE : Ext [] w0 w0 := (Ext.refl w0).more (by simp)
  have hga := hl.lt (by simp)
  have hgb := hl2.lt (by simp)
  refine enter (vs := [(.slice A xs.length c), (.slice B ys.length c')]) Try.func50 rfl Try.ntmps50 rfl ?_
  refine c_rs ?_
  refine s1 (v := (.bool false)) (rn_as rfl) ?_
  refine w_end ?_
  refine c_seq ?_
  refine c_rs ?_
  refine s1 (v := (.slice A xs.length c)) (rn_mv rfl) ?_
  refine s1 (v := (i64 (xs.length : Int))) (rn_len is22 rfl) ?_
  refine s1 (v := (.slice B ys.length c')) (rn_mv rfl) ?_
  refine s1 (v := (i64 (ys.length : Int))) (rn_len is22 rfl) ?_
  refine s1 (v := (.bool (decide ((xs.length : Int) ≠ (ys.length : Int))))) (rn_neq (m := (xs.length : Int)) (n := (ys.length : Int)) rfl rfl) ?_
  refine w_end ?_
  refine c_if (b := (decide ((xs.length : Int) ≠ (ys.length : Int)))) rfl (fun h1 => ?_) (fun h1 => ?_)
  ·
    have p2 := of_decide_eq_true h1
    refine c_rs ?_
    refine s1 (v := (.bool false)) (rn_as rfl) ?_
    refine w_end ?_
    refine c_ret ?_
    refine t_ret ?_
    refine bp_ret (rs1 rfl (rv_tmp (v := (.bool false)) rfl)) ?_
    have exy : ¬ xs = ys := by rintro rfl; simp at h1
    exact ⟨by rw [decide_eq_false exy], hE⟩
  ·
    have p3 := of_decide_eq_false h1
    refine c_skip' ?_
    refine t_norm ?_
    refine c_seq ?_
    refine c_rs ?_
    refine s1 (v := (i64 0)) (rn_as rfl) ?_
    refine w_end ?_
    refine c_block ?_
    refine c_loop (fun d a w => ∃ (k4 : Nat) (z_k4 : Nat → Value) , a = Fr 27 (lk [(.slice A xs.length c), (.slice B ys.length c'), undef, undef, (z_k4 4), (i64 (k4 : Int)), (.slice A xs.length c), (i64 (xs.length : Int)), (.slice B ys.length c'), (i64 (ys.length : Int)), (.bool (decide ((xs.length : Int) ≠ (ys.length : Int)))), (z_k4 11), (z_k4 12), (z_k4 13), (z_k4 14), (z_k4 15), (z_k4 16), (z_k4 17), (z_k4 18), (z_k4 19), (z_k4 20), (z_k4 21), (z_k4 22), (z_k4 23), (z_k4 24), (z_k4 25), (z_k4 26)]) [] ∧ d = xs.length - k4 ∧ k4 ≤ xs.length ∧ Ext [] w0 w ∧ Ls N3.cells 3 w ga A xs ∧ Ls N3.cells 3 w gb B ys ∧ xs.take k4 = ys.take k4) (xs.length - 0) ?_ ?_
    · exact ⟨0, (lk [(.slice A xs.length c), (.slice B ys.length c'), undef, undef, (.bool false), (i64 0), (.slice A xs.length c), (i64 (xs.length : Int)), (.slice B ys.length c'), (i64 (ys.length : Int)), (.bool (decide ((xs.length : Int) ≠ (ys.length : Int)))), undef, undef, undef, undef, undef, undef, undef, undef, undef, undef, undef, undef, undef, undef, undef, undef]), Fr_congr (by kernel_rfl), rfl, Nat.zero_le _, hE, hl, hl2, rfl⟩
    clear hE
    clear hl
    clear hl2
    rintro d a w5 ⟨k4, z_k4, rfl, rfl, hlek4, hE, hl, hl2, hpre⟩
    refine c_seq ?_
    refine c_rs ?_
    refine s1 (v := (i64 (k4 : Int))) (rn_mv rfl) ?_
    refine s1 (v := (.slice A xs.length c)) (rn_mv rfl) ?_
    refine s1 (v := (i64 (xs.length : Int))) (rn_len is22 rfl) ?_
    refine s1 (v := (.bool (decide ((k4 : Int) < (xs.length : Int))))) (rn_lss (m := (k4 : Int)) (n := (xs.length : Int)) rfl rfl) ?_
    refine w_end ?_
    refine c_if (b := (decide ((k4 : Int) < (xs.length : Int)))) rfl (fun h6 => ?_) (fun h6 => ?_)
    ·
      have p7 := of_decide_eq_true h6
      refine c_skip' ?_
      refine t_norm ?_
      refine c_seq ?_
      refine c_block ?_
      obtain ⟨x11, o8, hx12, hA9, el10⟩ := hl.el (k := k4) (by omega)
      obtain ⟨x16, o13, hx17, hA14, el15⟩ := hl2.el (k := k4) (by omega)
      refine c_seq ?_
      refine c_dr (n := 10) [.c (.slice A xs.length c), .c (i64 (k4 : Int)), .c (ptr ga (o8 + k4 * 3)), .c (N3.val x11), .c (.slice B ys.length c'), .c (i64 (k4 : Int)), .c (ptr gb (o13 + k4 * 3)), .c (N3.val x16), .c (.bool (decide (x11 = x16))), .c (.bool (!(decide (x11 = x16))))] rfl mixed (by kernel_rfl) ?_
      refine q_v (v := (.slice A xs.length c)) (fun W hC => rn_mv rfl) ?_
      refine q_v (v := (i64 (k4 : Int))) (fun W hC => rn_mv rfl) ?_
      refine q_v (v := (ptr ga (o8 + k4 * 3))) (fun W hC => rn_ie is22 rfl hA9 rfl (by omega) (by omega) rfl) ?_
      refine q_v (v := (N3.val x11)) (fun W hC => rn_ldN (vs := (N3.cells x11)) g28 rfl rfl (el10.ext0 hC)) ?_
      refine q_v (v := (.slice B ys.length c')) (fun W hC => rn_mv rfl) ?_
      refine q_v (v := (i64 (k4 : Int))) (fun W hC => rn_mv rfl) ?_
      refine q_v (v := (ptr gb (o13 + k4 * 3))) (fun W hC => rn_ie is22 rfl hA14 rfl (by omega) (by omega) rfl) ?_
      refine q_v (v := (N3.val x16)) (fun W hC => rn_ldN (vs := (N3.cells x16)) g28 rfl rfl (el15.ext0 hC)) ?_
      refine q_v (v := (.bool (decide (x11 = x16)))) (fun W hC => eq28 (a := x11) (b := x16) rfl rfl) ?_
      refine q_v (v := (.bool (!(decide (x11 = x16))))) (fun W hC => rn_not (b := (decide (x11 = x16))) rfl) ?_
      refine ob_end (fun w18 x19 he20 hap21 => ?_)
      replace hE := hE.step0 x19
      replace el10 := el10.ext0 x19
      replace el15 := el15.ext0 x19
      replace hl := hl.ext0 x19
      replace hl2 := hl2.ext0 x19
      clear x19
      refine w_end ?_
      refine c_if (b := (!(decide (x11 = x16)))) rfl (fun h22 => ?_) (fun h22 => ?_)
      ·
        have h23 := not_t h22
        have p24 := of_decide_eq_false h23
        refine c_rs ?_
        refine s1 (v := (.bool false)) (rn_as rfl) ?_
        refine w_end ?_
        refine c_ret ?_
        refine b_ret ?_
        refine t_ret ?_
        refine t_ret ?_
        refine b_ret ?_
        refine t_ret ?_
        refine bp_ret (rs1 rfl (rv_tmp (v := (.bool false)) rfl)) ?_
        have exy : ¬ xs = ys := by rintro rfl; rw [hx12] at hx17; cases hx17; simp at h23
        exact ⟨by rw [decide_eq_false exy], hE⟩
      ·
        have h25 := not_f h22
        have p26 := of_decide_eq_true h25
        refine c_skip' ?_
        refine b_norm ?_
        refine t_norm ?_
        refine c_r ?_
        refine s1 (v := (i64 (k4 : Int))) (rn_mv rfl) ?_
        refine s1 (v := (i64 ((k4 : Int) + 1))) (rn_add (m := (k4 : Int)) (n := 1) rfl rfl (wr64 (by omega) (by omega))) ?_
        refine s1 (v := (i64 ((k4 : Int) + 1))) (rn_as rfl) ?_
        refine w_nil ?_
        refine t_norm ?_
        exact ⟨xs.length - (k4 + 1), by omega, k4 + 1, (lk [(.slice A xs.length c), (.slice B ys.length c'), undef, undef, (z_k4 4), (i64 ((k4 : Int) + 1)), (.slice A xs.length c), (i64 (xs.length : Int)), (.slice B ys.length c'), (i64 (ys.length : Int)), (.bool (decide ((xs.length : Int) ≠ (ys.length : Int)))), (i64 (k4 : Int)), (.slice A xs.length c), (i64 (xs.length : Int)), (.bool (decide ((k4 : Int) < (xs.length : Int)))), (i64 (k4 : Int)), (i64 ((k4 : Int) + 1)), (.slice A xs.length c), (i64 (k4 : Int)), (ptr ga (o8 + k4 * 3)), (N3.val x11), (.slice B ys.length c'), (i64 (k4 : Int)), (ptr gb (o13 + k4 * 3)), (N3.val x16), (.bool (decide (x11 = x16))), (.bool (!(decide (x11 = x16))))]), Fr_congr (by kernel_rfl), rfl, by omega, hE, hl, hl2, (by rw [take_snoc hx12, take_snoc hx17, hpre, of_decide_eq_true h25])⟩
    ·
      have p27 := of_decide_eq_false h6
      refine c_exit ?_
      refine t_exit ?_
      refine t_exit ?_
      refine b_here ?_
      refine t_norm ?_
      refine c_rs ?_
      refine s1 (v := (.bool true)) (rn_as rfl) ?_
      refine w_end ?_
      refine c_ret ?_
      refine bp_ret (rs1 rfl (rv_tmp (v := (.bool true)) rfl)) ?_
      obtain rfl : k4 = xs.length := by omega
      have el : xs.length = ys.length := by omega
      have exy : xs = ys := by rw [List.take_length] at hpre; rw [hpre, el, List.take_length]
      exact ⟨by rw [decide_eq_true exy], hE⟩

theorem SameB_c {A B : Option Addr} {ga gb c c' : Nat} {xs ys : List Int} {w0 : World} (hl : Ls B1.cells 1 w0 ga A xs) (hl2 : Ls B1.cells 1 w0 gb B ys) (hn : xs.length ≤ 1000000) :
    Calls Try.prog 45 [(.slice A xs.length c), (.slice B ys.length c')].toArray w0 (Ret (Pu (.bool (decide (xs = ys))) w0)) := by
  have hE : Ext [] w0 w0 := (Ext.refl w0).more (by simp)
  have hga := hl.lt (by simp)
  have hgb := hl2.lt (by simp)
  refine enter (vs := [(.slice A xs.length c), (.slice B ys.length c')]) Try.func45 rfl Try.ntmps45 rfl ?_
  refine c_rs ?_
  refine s1 (v := (.bool false)) (rn_as rfl) ?_
  refine w_end ?_
  refine c_seq ?_
  refine c_rs ?_
  refine s1 (v := (.slice A xs.length c)) (rn_mv rfl) ?_
  refine s1 (v := (i64 (xs.length : Int))) (rn_len is55 rfl) ?_
  refine s1 (v := (.slice B ys.length c')) (rn_mv rfl) ?_
  refine s1 (v := (i64 (ys.length : Int))) (rn_len is55 rfl) ?_
  refine s1 (v := (.bool (decide ((xs.length : Int) ≠ (ys.length : Int))))) (rn_neq (m := (xs.length : Int)) (n := (ys.length : Int)) rfl rfl) ?_
  refine w_end ?_
  refine c_if (b := (decide ((xs.length : Int) ≠ (ys.length : Int)))) rfl (fun h1 => ?_) (fun h1 => ?_)
  ·
    have p2 := of_decide_eq_true h1
    refine c_rs ?_
    refine s1 (v := (.bool false)) (rn_as rfl) ?_
    refine w_end ?_
    refine c_ret ?_
    refine t_ret ?_
    refine bp_ret (rs1 rfl (rv_tmp (v := (.bool false)) rfl)) ?_
    have exy : ¬ xs = ys := by rintro rfl; simp at h1
    exact ⟨by rw [decide_eq_false exy], hE⟩
  ·
    have p3 := of_decide_eq_false h1
    refine c_skip' ?_
    refine t_norm ?_
    refine c_seq ?_
    refine c_rs ?_
    refine s1 (v := (i64 0)) (rn_as rfl) ?_
    refine w_end ?_
    refine c_block ?_
    refine c_loop (fun d a w => ∃ (k4 : Nat) (z_k4 : Nat → Value) , a = Fr 27 (lk [(.slice A xs.length c), (.slice B ys.length c'), undef, undef, (z_k4 4), (i64 (k4 : Int)), (.slice A xs.length c), (i64 (xs.length : Int)), (.slice B ys.length c'), (i64 (ys.length : Int)), (.bool (decide ((xs.length : Int) ≠ (ys.length : Int)))), (z_k4 11), (z_k4 12), (z_k4 13), (z_k4 14), (z_k4 15), (z_k4 16), (z_k4 17), (z_k4 18), (z_k4 19), (z_k4 20), (z_k4 21), (z_k4 22), (z_k4 23), (z_k4 24), (z_k4 25), (z_k4 26)]) [] ∧ d = xs.length - k4 ∧ k4 ≤ xs.length ∧ Ext [] w0 w ∧ Ls B1.cells 1 w ga A xs ∧ Ls B1.cells 1 w gb B ys ∧ xs.take k4 = ys.take k4) (xs.length - 0) ?_ ?_
    · exact ⟨0, (lk [(.slice A xs.length c), (.slice B ys.length c'), undef, undef, (.bool false), (i64 0), (.slice A xs.length c), (i64 (xs.length : Int)), (.slice B ys.length c'), (i64 (ys.length : Int)), (.bool (decide ((xs.length : Int) ≠ (ys.length : Int)))), undef, undef, undef, undef, undef, undef, undef, undef, undef, undef, undef, undef, undef, undef, undef, undef]), Fr_congr (by kernel_rfl), rfl, Nat.zero_le _, hE, hl, hl2, rfl⟩
    clear hE
    clear hl
    clear hl2
    rintro d a w5 ⟨k4, z_k4, rfl, rfl, hlek4, hE, hl, hl2, hpre⟩
    refine c_seq ?_
    refine c_rs ?_
    refine s1 (v := (i64 (k4 : Int))) (rn_mv rfl) ?_
    refine s1 (v := (.slice A xs.length c)) (rn_mv rfl) ?_
    refine s1 (v := (i64 (xs.length : Int))) (rn_len is55 rfl) ?_
    refine s1 (v := (.bool (decide ((k4 : Int) < (xs.length : Int))))) (rn_lss (m := (k4 : Int)) (n := (xs.length : Int)) rfl rfl) ?_
    refine w_end ?_
    refine c_if (b := (decide ((k4 : Int) < (xs.length : Int)))) rfl (fun h6 => ?_) (fun h6 => ?_)
    ·
      have p7 := of_decide_eq_true h6
      refine c_skip' ?_
      refine t_norm ?_
      refine c_seq ?_
      refine c_block ?_
      obtain ⟨x11, o8, hx12, hA9, el10⟩ := hl.el (k := k4) (by omega)
      obtain ⟨x16, o13, hx17, hA14, el15⟩ := hl2.el (k := k4) (by omega)
      refine c_seq ?_
      refine c_dr (n := 10) [.c (.slice A xs.length c), .c (i64 (k4 : Int)), .c (ptr ga (o8 + k4 * 1)), .c (u8 x11), .c (.slice B ys.length c'), .c (i64 (k4 : Int)), .c (ptr gb (o13 + k4 * 1)), .c (u8 x16), .c (.bool (decide (x11 = x16))), .c (.bool (!(decide (x11 = x16))))] rfl mixed (by kernel_rfl) ?_
      refine q_v (v := (.slice A xs.length c)) (fun W hC => rn_mv rfl) ?_
      refine q_v (v := (i64 (k4 : Int))) (fun W hC => rn_mv rfl) ?_
      refine q_v (v := (ptr ga (o8 + k4 * 1))) (fun W hC => rn_ie is55 rfl hA9 rfl (by omega) (by omega) rfl) ?_
      refine q_v (v := (u8 x11)) (fun W hC => rn_ld1 o5 rfl ((el10.ext0 hC) 0 _ rfl)) ?_
      refine q_v (v := (.slice B ys.length c')) (fun W hC => rn_mv rfl) ?_
      refine q_v (v := (i64 (k4 : Int))) (fun W hC => rn_mv rfl) ?_
      refine q_v (v := (ptr gb (o13 + k4 * 1))) (fun W hC => rn_ie is55 rfl hA14 rfl (by omega) (by omega) rfl) ?_
      refine q_v (v := (u8 x16)) (fun W hC => rn_ld1 o5 rfl ((el15.ext0 hC) 0 _ rfl)) ?_
      refine q_v (v := (.bool (decide (x11 = x16)))) (fun W hC => rn_eql (m := x11) (n := x16) rfl rfl) ?_
      refine q_v (v := (.bool (!(decide (x11 = x16))))) (fun W hC => rn_not (b := (decide (x11 = x16))) rfl) ?_
      refine ob_end (fun w18 x19 he20 hap21 => ?_)
      replace hE := hE.step0 x19
      replace el10 := el10.ext0 x19
      replace el15 := el15.ext0 x19
      replace hl := hl.ext0 x19
      replace hl2 := hl2.ext0 x19
      clear x19
      refine w_end ?_
      refine c_if (b := (!(decide (x11 = x16)))) rfl (fun h22 => ?_) (fun h22 => ?_)
      ·
        have h23 := not_t h22
        have p24 := of_decide_eq_false h23
        refine c_rs ?_
        refine s1 (v := (.bool false)) (rn_as rfl) ?_
        refine w_end ?_
        refine c_ret ?_
        refine b_ret ?_
        refine t_ret ?_
        refine t_ret ?_
        refine b_ret ?_
        refine t_ret ?_
        refine bp_ret (rs1 rfl (rv_tmp (v := (.bool false)) rfl)) ?_
        have exy : ¬ xs = ys := by rintro rfl; rw [hx12] at hx17; cases hx17; simp at h23
        exact ⟨by rw [decide_eq_false exy], hE⟩
      ·
        have h25 := not_f h22
        have p26 := of_decide_eq_true h25
        refine c_skip' ?_
        refine b_norm ?_
        refine t_norm ?_
        refine c_r ?_
        refine s1 (v := (i64 (k4 : Int))) (rn_mv rfl) ?_
        refine s1 (v := (i64 ((k4 : Int) + 1))) (rn_add (m := (k4 : Int)) (n := 1) rfl rfl (wr64 (by omega) (by omega))) ?_
        refine s1 (v := (i64 ((k4 : Int) + 1))) (rn_as rfl) ?_
        refine w_nil ?_
        refine t_norm ?_
        exact ⟨xs.length - (k4 + 1), by omega, k4 + 1, (lk [(.slice A xs.length c), (.slice B ys.length c'), undef, undef, (z_k4 4), (i64 ((k4 : Int) + 1)), (.slice A xs.length c), (i64 (xs.length : Int)), (.slice B ys.length c'), (i64 (ys.length : Int)), (.bool (decide ((xs.length : Int) ≠ (ys.length : Int)))), (i64 (k4 : Int)), (.slice A xs.length c), (i64 (xs.length : Int)), (.bool (decide ((k4 : Int) < (xs.length : Int)))), (i64 (k4 : Int)), (i64 ((k4 : Int) + 1)), (.slice A xs.length c), (i64 (k4 : Int)), (ptr ga (o8 + k4 * 1)), (u8 x11), (.slice B ys.length c'), (i64 (k4 : Int)), (ptr gb (o13 + k4 * 1)), (u8 x16), (.bool (decide (x11 = x16))), (.bool (!(decide (x11 = x16))))]), Fr_congr (by kernel_rfl), rfl, by omega, hE, hl, hl2, (by rw [take_snoc hx12, take_snoc hx17, hpre, of_decide_eq_true h25])⟩
    ·
      have p27 := of_decide_eq_false h6
      refine c_exit ?_
      refine t_exit ?_
      refine t_exit ?_
      refine b_here ?_
      refine t_norm ?_
      refine c_rs ?_
      refine s1 (v := (.bool true)) (rn_as rfl) ?_
      refine w_end ?_
      refine c_ret ?_
      refine bp_ret (rs1 rfl (rv_tmp (v := (.bool true)) rfl)) ?_
      obtain rfl : k4 = xs.length := by omega
      have el : xs.length = ys.length := by omega
      have exy : xs = ys := by rw [List.take_length] at hpre; rw [hpre, el, List.take_length]
      exact ⟨by rw [decide_eq_true exy], hE⟩

end Go.Proofs.Ytfdffeameoejfaa
