/- linfernamed: printed walks. -/
import Derived.Test.YtfdffeameoejfaaLaw14
import Derived.Test.YtfdffeameoejfaaPNamed
import Derived.Test.YtfdffeameoejfaaInfer3
import Derived.Test.YtfdffeameoejfaaPGossip
namespace Go.Proofs.Ytfdffeameoejfaa
open Go Go.RowKit
set_option linter.unusedVariables false
set_option linter.unusedSimpArgs false

theorem tmod_one {n : Int} (h : 1 ≤ n) : (1 : Int).tmod n = ((1 % n.toNat : Nat) : Int) := by
  obtain ⟨k, rfl⟩ := Int.eq_ofNat_of_zero_le (by omega : 0 ≤ n)
  rw [Int.toNat_natCast]; rfl
theorem tmod_rot {n i : Int} (h0 : 0 ≤ i) (h : 1 ≤ n) : (i + 1).tmod n = ((rot n.toNat i.toNat : Nat) : Int) := by
  obtain ⟨k, rfl⟩ := Int.eq_ofNat_of_zero_le (by omega : 0 ≤ n)
  obtain ⟨j, rfl⟩ := Int.eq_ofNat_of_zero_le h0
  rw [Int.toNat_natCast, Int.toNat_natCast]; rfl
theorem idsI_nat {s : S4} {k : Nat} {x : Int} (h : (idsI s)[k]? = some x) : ∃ i : Nat, (idsS s)[k]? = some i ∧ x = (i : Int) := by
  unfold idsI at h; rw [List.getElem?_map] at h
  cases hi : (idsS s)[k]? with
  | none => rw [hi] at h; cases h
  | some i => rw [hi] at h; cases h; exact ⟨i, rfl, rfl⟩

set_option maxHeartbeats 1600000 in
theorem InferNamed_w {A : Option Addr} {gl c : Nat} {l : List N3} {w0 : World} (n : Int) (m : S4) (hl : Ls N3.cells 3 w0 gl A l) (hml : l.length ≤ 9223372036854775807) (hm : m.wfu) :
    Calls Try.prog 14 [(i64 n), (.slice A l.length c), (S4.val m)].toArray w0 (Ret (fun v w' => v = .bool true ∧ Ext [] w0 w')) := by
  have hE : Ext [] w0 w0 := (Ext.refl w0).more (by simp)
  have hgl := hl.lt (by simp)
  have hmw : m.wf := ⟨⟨hm.1.1, by have := hm.1.2; omega⟩, ⟨hm.2.1.1, by have := hm.2.1.2; omega⟩, ⟨hm.2.2.1.1, by have := hm.2.2.1.2; omega⟩, ⟨hm.2.2.2.1, by have := hm.2.2.2.2; omega⟩⟩
  refine enter (vs := [(i64 n), (.slice A l.length c), (S4.val m)]) Try.func14 rfl Try.ntmps14 rfl ?_
  refine c_rs ?_
  refine s_box (v := (S4.val m)) (cs := (S4.cells m)) rfl rfl (fun b1 w2 hb1 gb1 x3 => ?_)
  have nb1_hE : w0.heap.size ≤ b1 := Nat.le_trans hE.size gb1
  clear gb1
  replace hE := hE.step0 x3
  replace hl := hl.ext0 x3
  clear x3
  refine s1 (v := (.bool false)) (rn_as rfl) ?_
  refine w_end ?_
  refine c_rs ?_
  refine s1 (v := (i64 n)) (rn_mv rfl) ?_
  rcases Bool.eq_false_or_eq_true (newOkB n 0 0) with hok | hok
  ·
    have hokt := newOkB_t hok; have hokn := hokt.1
    refine s_call e53 (vs := [(i64 n), (i64 0), (i64 0)]) rfl (New_i n 0 0 (by omega) (by omega) (by omega) (by omega) hokt.2) ?_
    rintro _ w6 ⟨p4, bb5, rfl, hB7, gp4, gbb5, x8⟩
    have np4_hE : w0.heap.size ≤ p4 := Nat.le_trans hE.size gp4
    have op4 : b1 < p4 := Nat.lt_of_lt_of_le hb1.lt gp4
    clear gp4
    have nbb5_hE : w0.heap.size ≤ bb5 := Nat.le_trans hE.size gbb5
    have obb5 : b1 < bb5 := Nat.lt_of_lt_of_le hb1.lt gbb5
    clear gbb5
    replace hE := hE.step0 x8
    replace hb1 := hb1.ext0 x8
    replace hl := hl.ext0 x8
    clear x8
    refine s1 (v := (.tuple #[(ptr p4 0), (i64 0)])) (rn_mv rfl) ?_
    refine s1 (v := (ptr p4 0)) (rn_ex (vs := [(ptr p4 0), (i64 0)]) rfl rfl) ?_
    refine s1 (v := (i64 0)) (rn_ex (vs := [(ptr p4 0), (i64 0)]) rfl rfl) ?_
    refine s1 (v := (ptr p4 0)) (rn_as rfl) ?_
    refine s1 (v := (i64 0)) (rn_as rfl) ?_
    refine w_end ?_
    refine c_seq ?_
    refine c_rs ?_
    refine s1 (v := (i64 0)) (rn_mv rfl) ?_
    refine s1 (v := (.bool false)) (rn_neq (m := 0) (n := 0) rfl rfl) ?_
    refine s1 (v := (.bool false)) (rn_mv rfl) ?_
    refine g_yes rfl rfl rfl rfl ?_
    refine s1 (v := (.slice A l.length c)) (rn_mv rfl) ?_
    refine g_yes rfl rfl rfl rfl ?_
    refine s1 (v := (i64 (l.length : Int))) (rn_len is22 rfl) ?_
    refine g_yes rfl rfl rfl rfl ?_
    refine s1 (v := (.bool (decide (300 < (l.length : Int))))) (rn_gtr (m := (l.length : Int)) (n := 300) rfl rfl) ?_
    refine s1 (v := (.bool (decide (300 < (l.length : Int))))) (rn_pF (b := false) rfl rfl rfl) ?_
    refine w_end ?_
    refine c_if (b := (decide (300 < (l.length : Int)))) rfl (fun h9 => ?_) (fun h9 => ?_)
    ·
      have p10 := of_decide_eq_true h9
      refine c_rs ?_
      refine s_callP e25 (v := (.bool true)) (vs := []) rfl (alive14_c) (fun w11 x12 => ?_)
      replace hE := hE.step0 x12
      replace hb1 := hb1.ext0 x12
      replace hl := hl.ext0 x12
      replace hB7 := hB7.ext0 x12
      clear x12
      refine s1 (v := (.bool true)) (rn_as rfl) ?_
      refine w_end ?_
      refine c_ret ?_
      refine t_ret ?_
      refine bp_ret (rs1 rfl (rv_tmp (v := (.bool true)) rfl)) ?_
      exact ⟨rfl, hE⟩
    ·
      have p13 := of_decide_eq_false h9
      refine c_skip' ?_
      refine t_norm ?_
      refine c_rs ?_
      obtain ⟨sv, hsv⟩ : ∃ sv : Nat, sv = 1 % n.toNat := ⟨_, rfl⟩
      have hsvl : sv < n.toNat := by rw [hsv]; exact Nat.mod_lt _ (by omega)
      refine s1 (v := (i64 n)) (rn_mv rfl) ?_
      refine s1 (v := (i64 n)) (rn_mv rfl) ?_
      refine s1 (v := (i64 (sv : Int))) (rn_rem (m := 1) (n := n) rfl rfl (by omega) (by rw [hsv]; exact tmod_one (by omega))) ?_
      refine s_call e53 (vs := [(i64 n), (i64 (sv : Int)), (i64 0)]) rfl (New_i n (sv : Int) 0 (by omega) (by omega) (by omega) (by omega) (by decide)) ?_
      rintro _ w16 ⟨p14, bb15, rfl, hB17, gp14, gbb15, x18⟩
      have np14_hE : w0.heap.size ≤ p14 := Nat.le_trans hE.size gp14
      have op14 : b1 < p14 := Nat.lt_of_lt_of_le hb1.lt gp14
      have op14_hB7 : p4 < p14 ∧ bb5 < p14 := ⟨Nat.lt_of_lt_of_le hB7.ltp gp14, Nat.lt_of_lt_of_le hB7.ltb gp14⟩
      clear gp14
      have nbb15_hE : w0.heap.size ≤ bb15 := Nat.le_trans hE.size gbb15
      have obb15 : b1 < bb15 := Nat.lt_of_lt_of_le hb1.lt gbb15
      have obb15_hB7 : p4 < bb15 ∧ bb5 < bb15 := ⟨Nat.lt_of_lt_of_le hB7.ltp gbb15, Nat.lt_of_lt_of_le hB7.ltb gbb15⟩
      clear gbb15
      replace hE := hE.step0 x18
      replace hb1 := hb1.ext0 x18
      replace hl := hl.ext0 x18
      replace hB7 := hB7.ext0 x18
      clear x18
      refine s1 (v := (.tuple #[(ptr p14 0), (i64 0)])) (rn_mv rfl) ?_
      refine s1 (v := (ptr p14 0)) (rn_ex (vs := [(ptr p14 0), (i64 0)]) rfl rfl) ?_
      refine s1 (v := (i64 0)) (rn_ex (vs := [(ptr p14 0), (i64 0)]) rfl rfl) ?_
      refine s1 (v := (ptr p14 0)) (rn_as rfl) ?_
      refine s1 (v := (i64 0)) (rn_as rfl) ?_
      refine w_end ?_
      refine c_rs ?_
      refine s_alloc (cs := [(u32 0), (u32 0), (u32 0), (u32 0)]) z34 rfl (fun b19 w20 hb19 gb19 x21 => ?_)
      have nb19_hE : w0.heap.size ≤ b19 := Nat.le_trans hE.size gb19
      have ob19 : b1 < b19 := Nat.lt_of_lt_of_le hb1.lt gb19
      have ob19_hB7 : p4 < b19 ∧ bb5 < b19 := ⟨Nat.lt_of_lt_of_le hB7.ltp gb19, Nat.lt_of_lt_of_le hB7.ltb gb19⟩
      have ob19_hB17 : p14 < b19 ∧ bb15 < b19 := ⟨Nat.lt_of_lt_of_le hB17.ltp gb19, Nat.lt_of_lt_of_le hB17.ltb gb19⟩
      clear gb19
      replace hE := hE.step0 x21
      replace hb1 := hb1.ext0 x21
      replace hl := hl.ext0 x21
      replace hB7 := hB7.ext0 x21
      replace hB17 := hB17.ext0 x21
      clear x21
      refine w_end ?_
      refine c_seq ?_
      refine c_rs ?_
      refine s1 (v := (i64 0)) (rn_as rfl) ?_
      refine w_end ?_
      refine c_block ?_
      have gX : Good (newL (n).toNat 0 0) := good_new (by omega) (by omega) (by omega) (by decide)
      have gY : Good (newL (n).toNat (sv : Int) 0) := good_new (by omega) (by omega) (by omega) (by decide)
      have hR : RotB n.toNat (newL (n).toNat 0 0) (newL (n).toNat (sv : Int) 0) := by rw [hsv]; exact rot_new (by omega) (by omega)
      refine c_loop (fun d a w => ∃ (k22 : Nat) (X23 : List N3) (Y24 : List N3) (z_k22 : Nat → Value) , a = Fr 144 (lk [(i64 n), (.slice A l.length c), (S4.val m), undef, undef, (ptr b1 0), (.bool false), (ptr p4 0), (i64 0), (ptr p14 0), (i64 0), (ptr b19 0), (i64 (k22 : Int)), (z_k22 13), undef, undef, undef, undef, undef, undef, undef, undef, (.tuple #[(ptr p4 0), (i64 0)]), (i64 n), (.tuple #[(ptr p4 0), (i64 0)]), (ptr p4 0), (i64 0), (i64 0), (.bool false), (.bool false), (.slice A l.length c), (i64 (l.length : Int)), (.bool (decide (300 < (l.length : Int)))), (.bool (decide (300 < (l.length : Int)))), undef, (.tuple #[(ptr p14 0), (i64 0)]), (i64 n), (i64 n), (i64 (sv : Int)), (.tuple #[(ptr p14 0), (i64 0)]), (ptr p14 0), (i64 0), (z_k22 42), (z_k22 43), (z_k22 44), (z_k22 45), (z_k22 46), (z_k22 47), (z_k22 48), (z_k22 49), (z_k22 50), (z_k22 51), (z_k22 52), (z_k22 53), (z_k22 54), (z_k22 55), (z_k22 56), (z_k22 57), (z_k22 58), (z_k22 59), (z_k22 60), (z_k22 61), (z_k22 62), (z_k22 63), (z_k22 64), (z_k22 65), (z_k22 66), (z_k22 67), (z_k22 68), (z_k22 69), (z_k22 70), (z_k22 71), (z_k22 72), undef, undef, undef, undef, undef, undef, undef, undef, undef, undef, undef, undef, undef, undef, undef, undef, undef, undef, undef, undef, undef, undef, undef, undef, undef, undef, undef, undef, undef, undef, undef, undef, undef, undef, undef, undef, undef, undef, undef, undef, undef, undef, undef, undef, undef, undef, undef, undef, undef, undef, undef, undef, undef, undef, undef, undef, undef, undef, undef, undef, undef, undef, undef, undef, undef, undef, undef, undef, undef, undef, undef]) [] ∧ d = l.length - k22 ∧ k22 ≤ l.length ∧ Ext [] w0 w ∧ Blk w b1 34 (S4.cells m) ∧ Blk w b19 34 [(u32 0), (u32 0), (u32 0), (u32 0)] ∧ Ls N3.cells 3 w gl A l ∧ Bk w p4 bb5 X23 ∧ Bk w p14 bb15 Y24 ∧ (Good X23) ∧ (Good Y24) ∧ (RotB n.toNat X23 Y24)) (l.length - 0) ?_ ?_
      · exact ⟨0, (newL (n).toNat 0 0), (newL (n).toNat (sv : Int) 0), (lk [(i64 n), (.slice A l.length c), (S4.val m), undef, undef, (ptr b1 0), (.bool false), (ptr p4 0), (i64 0), (ptr p14 0), (i64 0), (ptr b19 0), (i64 0), undef, undef, undef, undef, undef, undef, undef, undef, undef, (.tuple #[(ptr p4 0), (i64 0)]), (i64 n), (.tuple #[(ptr p4 0), (i64 0)]), (ptr p4 0), (i64 0), (i64 0), (.bool false), (.bool false), (.slice A l.length c), (i64 (l.length : Int)), (.bool (decide (300 < (l.length : Int)))), (.bool (decide (300 < (l.length : Int)))), undef, (.tuple #[(ptr p14 0), (i64 0)]), (i64 n), (i64 n), (i64 (sv : Int)), (.tuple #[(ptr p14 0), (i64 0)]), (ptr p14 0), (i64 0), undef, undef, undef, undef, undef, undef, undef, undef, undef, undef, undef, undef, undef, undef, undef, undef, undef, undef, undef, undef, undef, undef, undef, undef, undef, undef, undef, undef, undef, undef, undef, undef, undef, undef, undef, undef, undef, undef, undef, undef, undef, undef, undef, undef, undef, undef, undef, undef, undef, undef, undef, undef, undef, undef, undef, undef, undef, undef, undef, undef, undef, undef, undef, undef, undef, undef, undef, undef, undef, undef, undef, undef, undef, undef, undef, undef, undef, undef, undef, undef, undef, undef, undef, undef, undef, undef, undef, undef, undef, undef, undef, undef, undef, undef, undef, undef, undef, undef, undef, undef, undef, undef]), Fr_congr (by kernel_rfl), rfl, Nat.zero_le _, hE, hb1, hb19, hl, hB7, hB17, gX, gY, hR⟩
      clear hE
      clear hb1
      clear hb19
      clear hl
      clear hB7
      clear hB17
      rintro d a w25 ⟨k22, X23, Y24, z_k22, rfl, rfl, hlek22, hE, hb1, hb19, hl, hB7, hB17, gX, gY, hR⟩
      have hlX := hR.1; have hlY := hR.2.1
      refine c_seq ?_
      refine c_rs ?_
      refine s1 (v := (i64 (k22 : Int))) (rn_mv rfl) ?_
      refine s1 (v := (.slice A l.length c)) (rn_mv rfl) ?_
      refine s1 (v := (i64 (l.length : Int))) (rn_len is22 rfl) ?_
      refine s1 (v := (.bool (decide ((k22 : Int) < (l.length : Int))))) (rn_lss (m := (k22 : Int)) (n := (l.length : Int)) rfl rfl) ?_
      refine w_end ?_
      refine c_if (b := (decide ((k22 : Int) < (l.length : Int)))) rfl (fun h26 => ?_) (fun h26 => ?_)
      ·
        have p27 := of_decide_eq_true h26
        refine c_skip' ?_
        refine t_norm ?_
        refine c_seq ?_
        refine c_block ?_
        refine c_rs ?_
        refine s1 (v := (.slice A l.length c)) (rn_mv rfl) ?_
        refine s1 (v := (i64 (k22 : Int))) (rn_mv rfl) ?_
        obtain ⟨x31, o28, hx32, hA29, el30⟩ := hl.el (k := k22) (by omega)
        refine s1 (v := (ptr gl (o28 + k22 * 3))) (rn_ie is22 rfl hA29 rfl (by omega) (by omega) rfl) ?_
        refine s1 (v := (N3.val x31)) (rn_ldN (vs := (N3.cells x31)) g28 rfl rfl el30) ?_
        refine s_alloc (cs := [(i64 0), (i64 0), (i64 0)]) z28 rfl (fun b33 w34 hb33 gb33 x35 => ?_)
        have nb33_hE : w0.heap.size ≤ b33 := Nat.le_trans hE.size gb33
        have ob33 : b19 < b33 := Nat.lt_of_lt_of_le hb19.lt gb33
        have ob33_hB7 : p4 < b33 ∧ bb5 < b33 := ⟨Nat.lt_of_lt_of_le hB7.ltp gb33, Nat.lt_of_lt_of_le hB7.ltb gb33⟩
        have ob33_hB17 : p14 < b33 ∧ bb15 < b33 := ⟨Nat.lt_of_lt_of_le hB17.ltp gb33, Nat.lt_of_lt_of_le hB17.ltb gb33⟩
        clear gb33
        replace hE := hE.step0 x35
        replace hb1 := hb1.ext0 x35
        replace hb19 := hb19.ext0 x35
        replace el30 := el30.ext0 x35
        replace hl := hl.ext0 x35
        replace hB7 := hB7.ext0 x35
        replace hB17 := hB17.ext0 x35
        clear x35
        refine s_st (v := (N3.val x31)) (vs := (N3.cells x31)) (cs' := (N3.cells x31)) g28.2 rfl rfl rfl rfl hb33 (by simp) rfl rfl (fun w36 h_ x37 => ?_)
        replace hE := hE.step1 x37 (by first | (left; simp; done) | (right; omega))
        replace hb1 := hb1.ext1 x37 (by omega)
        replace hb19 := hb19.ext1 x37 (by omega)
        replace el30 := el30.ext1 x37 (by omega)
        replace hl := hl.ext1 x37 (by omega)
        replace hB7 := hB7.ext1 x37 (by omega)
        replace hB17 := hB17.ext1 x37 (by omega)
        clear x37
        replace hb33 := h_; clear h_
        refine w_end ?_
        refine c_seq ?_
        refine c_rs ?_
        refine s1 (v := (ptr b33 0)) (rn_fa fa28_0 rfl rfl) ?_
        refine s1 (v := (i64 x31.of)) (rn_lb1 o3 rfl hb33 rfl) ?_
        refine s1 (v := (.bool (decide (x31.of < 0)))) (rn_lss (m := x31.of) (n := 0) rfl rfl) ?_
        refine s1 (v := (.bool (decide (x31.of < 0)))) (rn_mv rfl) ?_
        rcases Bool.eq_false_or_eq_true (decide (x31.of < 0)) with h38 | h38
        ·
          have p39 := of_decide_eq_true h38
          refine g_not rfl rfl rfl h38 ?_
          refine g_not rfl rfl rfl h38 ?_
          refine g_not rfl rfl rfl h38 ?_
          refine g_not rfl rfl rfl h38 ?_
          refine s1 (v := (.bool true)) (rn_pT (b := (decide (x31.of < 0))) rfl h38 rfl) ?_
          refine w_end ?_
          refine c_T (b := true) rfl rfl ?_
          refine c_exit ?_
          refine t_exit ?_
          refine b_here ?_
          refine t_norm ?_
          refine c_r ?_
          refine s1 (v := (i64 (k22 : Int))) (rn_mv rfl) ?_
          refine s1 (v := (i64 ((k22 : Int) + 1))) (rn_add (m := (k22 : Int)) (n := 1) rfl rfl (wr64 (by omega) (by omega))) ?_
          refine s1 (v := (i64 ((k22 : Int) + 1))) (rn_as rfl) ?_
          refine w_nil ?_
          refine t_norm ?_
          exact ⟨l.length - (k22 + 1), by omega, k22 + 1, X23, Y24, (lk [(i64 n), (.slice A l.length c), (S4.val m), undef, undef, (ptr b1 0), (.bool false), (ptr p4 0), (i64 0), (ptr p14 0), (i64 0), (ptr b19 0), (i64 ((k22 : Int) + 1)), (ptr b33 0), undef, undef, undef, undef, undef, undef, undef, undef, (.tuple #[(ptr p4 0), (i64 0)]), (i64 n), (.tuple #[(ptr p4 0), (i64 0)]), (ptr p4 0), (i64 0), (i64 0), (.bool false), (.bool false), (.slice A l.length c), (i64 (l.length : Int)), (.bool (decide (300 < (l.length : Int)))), (.bool (decide (300 < (l.length : Int)))), undef, (.tuple #[(ptr p14 0), (i64 0)]), (i64 n), (i64 n), (i64 (sv : Int)), (.tuple #[(ptr p14 0), (i64 0)]), (ptr p14 0), (i64 0), (i64 (k22 : Int)), (.slice A l.length c), (i64 (l.length : Int)), (.bool (decide ((k22 : Int) < (l.length : Int)))), (i64 (k22 : Int)), (i64 ((k22 : Int) + 1)), (.slice A l.length c), (i64 (k22 : Int)), (ptr gl (o28 + k22 * 3)), (N3.val x31), (ptr b33 0), (i64 x31.of), (.bool (decide (x31.of < 0))), (.bool (decide (x31.of < 0))), undef, undef, undef, undef, (.bool true), (z_k22 61), (z_k22 62), (z_k22 63), (z_k22 64), (z_k22 65), (z_k22 66), (z_k22 67), (z_k22 68), (z_k22 69), (z_k22 70), (z_k22 71), (z_k22 72), undef, undef, undef, undef, undef, undef, undef, undef, undef, undef, undef, undef, undef, undef, undef, undef, undef, undef, undef, undef, undef, undef, undef, undef, undef, undef, undef, undef, undef, undef, undef, undef, undef, undef, undef, undef, undef, undef, undef, undef, undef, undef, undef, undef, undef, undef, undef, undef, undef, undef, undef, undef, undef, undef, undef, undef, undef, undef, undef, undef, undef, undef, undef, undef, undef, undef, undef, undef, undef, undef, undef]), Fr_congr (by kernel_rfl), rfl, by omega, hE, hb1, hb19, hl, hB7, hB17, gX, gY, hR⟩
        ·
          have p40 := of_decide_eq_false h38
          refine g_yes rfl rfl rfl h38 ?_
          refine s1 (v := (ptr b33 0)) (rn_fa fa28_0 rfl rfl) ?_
          refine g_yes rfl rfl rfl h38 ?_
          refine s1 (v := (i64 x31.of)) (rn_lb1 o3 rfl hb33 rfl) ?_
          refine g_yes rfl rfl rfl h38 ?_
          refine s1 (v := (i64 n)) (rn_mv rfl) ?_
          refine g_yes rfl rfl rfl h38 ?_
          refine s1 (v := (.bool (decide (n ≤ x31.of)))) (rn_geq (m := x31.of) (n := n) rfl rfl) ?_
          refine s1 (v := (.bool (decide (n ≤ x31.of)))) (rn_pF (b := (decide (x31.of < 0))) rfl h38 rfl) ?_
          refine w_end ?_
          refine c_if (b := (decide (n ≤ x31.of))) rfl (fun h41 => ?_) (fun h41 => ?_)
          ·
            have p42 := of_decide_eq_true h41
            refine c_exit ?_
            refine t_exit ?_
            refine b_here ?_
            refine t_norm ?_
            refine c_r ?_
            refine s1 (v := (i64 (k22 : Int))) (rn_mv rfl) ?_
            refine s1 (v := (i64 ((k22 : Int) + 1))) (rn_add (m := (k22 : Int)) (n := 1) rfl rfl (wr64 (by omega) (by omega))) ?_
            refine s1 (v := (i64 ((k22 : Int) + 1))) (rn_as rfl) ?_
            refine w_nil ?_
            refine t_norm ?_
            exact ⟨l.length - (k22 + 1), by omega, k22 + 1, X23, Y24, (lk [(i64 n), (.slice A l.length c), (S4.val m), undef, undef, (ptr b1 0), (.bool false), (ptr p4 0), (i64 0), (ptr p14 0), (i64 0), (ptr b19 0), (i64 ((k22 : Int) + 1)), (ptr b33 0), undef, undef, undef, undef, undef, undef, undef, undef, (.tuple #[(ptr p4 0), (i64 0)]), (i64 n), (.tuple #[(ptr p4 0), (i64 0)]), (ptr p4 0), (i64 0), (i64 0), (.bool false), (.bool false), (.slice A l.length c), (i64 (l.length : Int)), (.bool (decide (300 < (l.length : Int)))), (.bool (decide (300 < (l.length : Int)))), undef, (.tuple #[(ptr p14 0), (i64 0)]), (i64 n), (i64 n), (i64 (sv : Int)), (.tuple #[(ptr p14 0), (i64 0)]), (ptr p14 0), (i64 0), (i64 (k22 : Int)), (.slice A l.length c), (i64 (l.length : Int)), (.bool (decide ((k22 : Int) < (l.length : Int)))), (i64 (k22 : Int)), (i64 ((k22 : Int) + 1)), (.slice A l.length c), (i64 (k22 : Int)), (ptr gl (o28 + k22 * 3)), (N3.val x31), (ptr b33 0), (i64 x31.of), (.bool (decide (x31.of < 0))), (.bool (decide (x31.of < 0))), (ptr b33 0), (i64 x31.of), (i64 n), (.bool (decide (n ≤ x31.of))), (.bool (decide (n ≤ x31.of))), (z_k22 61), (z_k22 62), (z_k22 63), (z_k22 64), (z_k22 65), (z_k22 66), (z_k22 67), (z_k22 68), (z_k22 69), (z_k22 70), (z_k22 71), (z_k22 72), undef, undef, undef, undef, undef, undef, undef, undef, undef, undef, undef, undef, undef, undef, undef, undef, undef, undef, undef, undef, undef, undef, undef, undef, undef, undef, undef, undef, undef, undef, undef, undef, undef, undef, undef, undef, undef, undef, undef, undef, undef, undef, undef, undef, undef, undef, undef, undef, undef, undef, undef, undef, undef, undef, undef, undef, undef, undef, undef, undef, undef, undef, undef, undef, undef, undef, undef, undef, undef, undef, undef]), Fr_congr (by kernel_rfl), rfl, by omega, hE, hb1, hb19, hl, hB7, hB17, gX, gY, hR⟩
          ·
            have p43 := of_decide_eq_false h41
            refine c_skip' ?_
            refine t_norm ?_
            refine c_rs ?_
            refine s1 (v := (ptr p4 0)) (rn_mv rfl) ?_
            refine s1 (v := (N3.val x31)) (rn_lbN (vs := (N3.cells x31)) g28 rfl hb33 rfl rfl) ?_
            refine s_call e47 (vs := [(ptr p4 0), (N3.val x31)]) rfl (Take_c hB7 x31) ?_
            rintro _ w44 ⟨rfl, hB45, x46⟩
            replace hE := hE.step1 x46 (by first | (left; simp; done) | (right; omega))
            replace hb1 := hb1.ext1 x46 (by omega)
            replace hb19 := hb19.ext1 x46 (by omega)
            replace hb33 := hb33.ext1 x46 (by omega)
            replace el30 := el30.ext1 x46 (by omega)
            replace hl := hl.ext1 x46 (by omega)
            replace hB17 := hB17.ext1 x46 (by omega)
            clear x46
            replace hB7 := hB45; clear hB45
            refine w_end ?_
            refine c_rs ?_
            refine s1 (v := (ptr b33 0)) (rn_fa fa28_0 rfl rfl) ?_
            refine s1 (v := (i64 x31.of)) (rn_lb1 o3 rfl hb33 rfl) ?_
            refine s1 (v := (i64 (x31.of + 1))) (rn_add (m := x31.of) (n := 1) rfl rfl (wr64 (by omega) (by omega))) ?_
            refine s1 (v := (i64 n)) (rn_mv rfl) ?_
            refine s1 (v := (i64 ((rot n.toNat x31.of.toNat : Nat) : Int))) (rn_rem (m := x31.of + 1) (n := n) rfl rfl (by omega) (tmod_rot (by omega) (by omega))) ?_
            refine s1 (v := (ptr b33 0)) (rn_fa fa28_0 rfl rfl) ?_
            refine s_st (v := (i64 ((rot n.toNat x31.of.toNat : Nat) : Int))) (vs := [(i64 ((rot n.toNat x31.of.toNat : Nat) : Int))]) (cs' := (N3.cells (N3.mk ((rot n.toNat x31.of.toNat : Nat) : Int) x31.tag x31.kind))) o3.2 rfl rfl rfl rfl hb33 (by simp) rfl rfl (fun w47 h_ x48 => ?_)
            replace hE := hE.step1 x48 (by first | (left; simp; done) | (right; omega))
            replace hb1 := hb1.ext1 x48 (by omega)
            replace hb19 := hb19.ext1 x48 (by omega)
            replace el30 := el30.ext1 x48 (by omega)
            replace hl := hl.ext1 x48 (by omega)
            replace hB7 := hB7.ext1 x48 (by omega)
            replace hB17 := hB17.ext1 x48 (by omega)
            clear x48
            replace hb33 := h_; clear h_
            refine w_end ?_
            refine c_r ?_
            refine s1 (v := (ptr p14 0)) (rn_mv rfl) ?_
            refine s1 (v := (N3.val (N3.mk ((rot n.toNat x31.of.toNat : Nat) : Int) x31.tag x31.kind))) (rn_lbN (vs := (N3.cells (N3.mk ((rot n.toNat x31.of.toNat : Nat) : Int) x31.tag x31.kind))) g28 rfl hb33 rfl rfl) ?_
            refine s_call e47 (vs := [(ptr p14 0), (N3.val (N3.mk ((rot n.toNat x31.of.toNat : Nat) : Int) x31.tag x31.kind))]) rfl (Take_c hB17 (N3.mk ((rot n.toNat x31.of.toNat : Nat) : Int) x31.tag x31.kind)) ?_
            rintro _ w49 ⟨rfl, hB50, x51⟩
            replace hE := hE.step1 x51 (by first | (left; simp; done) | (right; omega))
            replace hb1 := hb1.ext1 x51 (by omega)
            replace hb19 := hb19.ext1 x51 (by omega)
            replace hb33 := hb33.ext1 x51 (by omega)
            replace el30 := el30.ext1 x51 (by omega)
            replace hl := hl.ext1 x51 (by omega)
            replace hB7 := hB7.ext1 x51 (by omega)
            clear x51
            replace hB17 := hB50; clear hB50
            refine w_nil ?_
            refine b_norm ?_
            refine t_norm ?_
            refine c_r ?_
            refine s1 (v := (i64 (k22 : Int))) (rn_mv rfl) ?_
            refine s1 (v := (i64 ((k22 : Int) + 1))) (rn_add (m := (k22 : Int)) (n := 1) rfl rfl (wr64 (by omega) (by omega))) ?_
            refine s1 (v := (i64 ((k22 : Int) + 1))) (rn_as rfl) ?_
            refine w_nil ?_
            refine t_norm ?_
            exact ⟨l.length - (k22 + 1), by omega, k22 + 1, (take1 X23 x31), (take1 Y24 (N3.mk ((rot n.toNat x31.of.toNat : Nat) : Int) x31.tag x31.kind)), (lk [(i64 n), (.slice A l.length c), (S4.val m), undef, undef, (ptr b1 0), (.bool false), (ptr p4 0), (i64 0), (ptr p14 0), (i64 0), (ptr b19 0), (i64 ((k22 : Int) + 1)), (ptr b33 0), undef, undef, undef, undef, undef, undef, undef, undef, (.tuple #[(ptr p4 0), (i64 0)]), (i64 n), (.tuple #[(ptr p4 0), (i64 0)]), (ptr p4 0), (i64 0), (i64 0), (.bool false), (.bool false), (.slice A l.length c), (i64 (l.length : Int)), (.bool (decide (300 < (l.length : Int)))), (.bool (decide (300 < (l.length : Int)))), undef, (.tuple #[(ptr p14 0), (i64 0)]), (i64 n), (i64 n), (i64 (sv : Int)), (.tuple #[(ptr p14 0), (i64 0)]), (ptr p14 0), (i64 0), (i64 (k22 : Int)), (.slice A l.length c), (i64 (l.length : Int)), (.bool (decide ((k22 : Int) < (l.length : Int)))), (i64 (k22 : Int)), (i64 ((k22 : Int) + 1)), (.slice A l.length c), (i64 (k22 : Int)), (ptr gl (o28 + k22 * 3)), (N3.val x31), (ptr b33 0), (i64 x31.of), (.bool (decide (x31.of < 0))), (.bool (decide (x31.of < 0))), (ptr b33 0), (i64 x31.of), (i64 n), (.bool (decide (n ≤ x31.of))), (.bool (decide (n ≤ x31.of))), (ptr p4 0), (N3.val x31), (.tuple #[(.bool (takes X23 x31)), (i64 (takeE X23 x31))]), (ptr b33 0), (i64 x31.of), (i64 (x31.of + 1)), (i64 n), (i64 ((rot n.toNat x31.of.toNat : Nat) : Int)), (ptr b33 0), (ptr p14 0), (N3.val (N3.mk ((rot n.toNat x31.of.toNat : Nat) : Int) x31.tag x31.kind)), (.tuple #[(.bool (takes Y24 (N3.mk ((rot n.toNat x31.of.toNat : Nat) : Int) x31.tag x31.kind))), (i64 (takeE Y24 (N3.mk ((rot n.toNat x31.of.toNat : Nat) : Int) x31.tag x31.kind)))]), undef, undef, undef, undef, undef, undef, undef, undef, undef, undef, undef, undef, undef, undef, undef, undef, undef, undef, undef, undef, undef, undef, undef, undef, undef, undef, undef, undef, undef, undef, undef, undef, undef, undef, undef, undef, undef, undef, undef, undef, undef, undef, undef, undef, undef, undef, undef, undef, undef, undef, undef, undef, undef, undef, undef, undef, undef, undef, undef, undef, undef, undef, undef, undef, undef, undef, undef, undef, undef, undef, undef]), Fr_congr (by kernel_rfl), rfl, by omega, hE, hb1, hb19, hl, hB7, hB17, (take1_good gX), (take1_good gY), (rot_take gX hR (by omega) (by omega))⟩
      ·
        have p52 := of_decide_eq_false h26
        refine c_exit ?_
        refine t_exit ?_
        refine t_exit ?_
        refine b_here ?_
        refine t_norm ?_
        refine c_rs ?_
        refine s1 (v := (S4.val m)) (rn_lbN (vs := (S4.cells m)) g34 rfl hb1 rfl rfl) ?_
        refine s_call e54 (vs := [(S4.val m)]) rfl (Ids_c m) ?_
        rintro _ w57 ⟨A53, c54, g55, rfl, hl56, gg55, x58⟩
        have dg55 := gg55.imp_left (fun q => And.intro (Nat.le_trans hE.size q) (And.intro (Nat.lt_of_lt_of_le hb1.lt q) (And.intro (Nat.lt_of_lt_of_le hb19.lt q) (And.intro (Nat.lt_of_lt_of_le hB7.ltp q) (And.intro (Nat.lt_of_lt_of_le hB7.ltb q) (And.intro (Nat.lt_of_lt_of_le hB17.ltp q) (Nat.lt_of_lt_of_le hB17.ltb q)))))))
        clear gg55
        replace hE := hE.step0 x58
        replace hb1 := hb1.ext0 x58
        replace hb19 := hb19.ext0 x58
        replace hl := hl.ext0 x58
        replace hB7 := hB7.ext0 x58
        replace hB17 := hB17.ext0 x58
        clear x58
        refine s1 (v := (.slice A53 (((idsI m)).length) c54)) (rn_as rfl) ?_
        refine w_end ?_
        refine c_seq ?_
        refine c_rs ?_
        refine s1 (v := (i64 0)) (rn_as rfl) ?_
        refine w_end ?_
        refine c_block ?_
        have hil := idsS_le m; have hiL := idsI_len m
        refine c_loop (fun d a w => ∃ (k59 : Nat) (z_k59 : Nat → Value) , a = Fr 144 (lk [(i64 n), (.slice A l.length c), (S4.val m), undef, undef, (ptr b1 0), (.bool false), (ptr p4 0), (i64 0), (ptr p14 0), (i64 0), (ptr b19 0), (i64 (k22 : Int)), (z_k22 13), (.slice A53 (((idsI m)).length) c54), (i64 (k59 : Int)), undef, undef, undef, undef, undef, undef, (.tuple #[(ptr p4 0), (i64 0)]), (i64 n), (.tuple #[(ptr p4 0), (i64 0)]), (ptr p4 0), (i64 0), (i64 0), (.bool false), (.bool false), (.slice A l.length c), (i64 (l.length : Int)), (.bool (decide (300 < (l.length : Int)))), (.bool (decide (300 < (l.length : Int)))), undef, (.tuple #[(ptr p14 0), (i64 0)]), (i64 n), (i64 n), (i64 (sv : Int)), (.tuple #[(ptr p14 0), (i64 0)]), (ptr p14 0), (i64 0), (i64 (k22 : Int)), (.slice A l.length c), (i64 (l.length : Int)), (.bool (decide ((k22 : Int) < (l.length : Int)))), (z_k22 46), (z_k22 47), (z_k22 48), (z_k22 49), (z_k22 50), (z_k22 51), (z_k22 52), (z_k22 53), (z_k22 54), (z_k22 55), (z_k22 56), (z_k22 57), (z_k22 58), (z_k22 59), (z_k22 60), (z_k22 61), (z_k22 62), (z_k22 63), (z_k22 64), (z_k22 65), (z_k22 66), (z_k22 67), (z_k22 68), (z_k22 69), (z_k22 70), (z_k22 71), (z_k22 72), (S4.val m), (.slice A53 (((idsI m)).length) c54), (z_k59 75), (z_k59 76), (z_k59 77), (z_k59 78), (z_k59 79), (z_k59 80), (z_k59 81), (z_k59 82), (z_k59 83), (z_k59 84), (z_k59 85), (z_k59 86), (z_k59 87), (z_k59 88), (z_k59 89), (z_k59 90), (z_k59 91), (z_k59 92), (z_k59 93), (z_k59 94), (z_k59 95), (z_k59 96), (z_k59 97), (z_k59 98), undef, undef, undef, undef, undef, undef, undef, undef, undef, undef, undef, undef, undef, undef, undef, undef, undef, undef, undef, undef, undef, undef, undef, undef, undef, undef, undef, undef, undef, undef, undef, undef, undef, undef, undef, undef, undef, undef, undef, undef, undef, undef, undef, undef, undef]) [] ∧ d = ((idsI m).length) - k59 ∧ k59 ≤ (idsI m).length ∧ Ext [] w0 w ∧ Blk w b1 34 (S4.cells m) ∧ Blk w b19 34 (S4.cells (rotS n.toNat ((idsS m).take k59))) ∧ Ls N3.cells 3 w gl A l ∧ Bk w p4 bb5 X23 ∧ Bk w p14 bb15 Y24 ∧ Ls I1.cells 1 w g55 A53 (idsI m)) (((idsI m).length) - 0) ?_ ?_
        · exact ⟨0, (lk [(i64 n), (.slice A l.length c), (S4.val m), undef, undef, (ptr b1 0), (.bool false), (ptr p4 0), (i64 0), (ptr p14 0), (i64 0), (ptr b19 0), (i64 (k22 : Int)), (z_k22 13), (.slice A53 (((idsI m)).length) c54), (i64 0), undef, undef, undef, undef, undef, undef, (.tuple #[(ptr p4 0), (i64 0)]), (i64 n), (.tuple #[(ptr p4 0), (i64 0)]), (ptr p4 0), (i64 0), (i64 0), (.bool false), (.bool false), (.slice A l.length c), (i64 (l.length : Int)), (.bool (decide (300 < (l.length : Int)))), (.bool (decide (300 < (l.length : Int)))), undef, (.tuple #[(ptr p14 0), (i64 0)]), (i64 n), (i64 n), (i64 (sv : Int)), (.tuple #[(ptr p14 0), (i64 0)]), (ptr p14 0), (i64 0), (i64 (k22 : Int)), (.slice A l.length c), (i64 (l.length : Int)), (.bool (decide ((k22 : Int) < (l.length : Int)))), (z_k22 46), (z_k22 47), (z_k22 48), (z_k22 49), (z_k22 50), (z_k22 51), (z_k22 52), (z_k22 53), (z_k22 54), (z_k22 55), (z_k22 56), (z_k22 57), (z_k22 58), (z_k22 59), (z_k22 60), (z_k22 61), (z_k22 62), (z_k22 63), (z_k22 64), (z_k22 65), (z_k22 66), (z_k22 67), (z_k22 68), (z_k22 69), (z_k22 70), (z_k22 71), (z_k22 72), (S4.val m), (.slice A53 (((idsI m)).length) c54), undef, undef, undef, undef, undef, undef, undef, undef, undef, undef, undef, undef, undef, undef, undef, undef, undef, undef, undef, undef, undef, undef, undef, undef, undef, undef, undef, undef, undef, undef, undef, undef, undef, undef, undef, undef, undef, undef, undef, undef, undef, undef, undef, undef, undef, undef, undef, undef, undef, undef, undef, undef, undef, undef, undef, undef, undef, undef, undef, undef, undef, undef, undef, undef, undef, undef, undef, undef, undef]), Fr_congr (by kernel_rfl), rfl, Nat.zero_le _, hE, hb1, hb19, hl, hB7, hB17, hl56⟩
        clear hE
        clear hb1
        clear hb19
        clear hl
        clear hB7
        clear hB17
        clear hl56
        rintro d a w60 ⟨k59, z_k59, rfl, rfl, hlek59, hE, hb1, hb19, hl, hB7, hB17, hl56⟩
        refine c_seq ?_
        refine c_rs ?_
        refine s1 (v := (i64 (k59 : Int))) (rn_mv rfl) ?_
        refine s1 (v := (.slice A53 (((idsI m)).length) c54)) (rn_mv rfl) ?_
        refine s1 (v := (i64 (((idsI m)).length : Int))) (rn_len is40 rfl) ?_
        refine s1 (v := (.bool (decide ((k59 : Int) < (((idsI m)).length : Int))))) (rn_lss (m := (k59 : Int)) (n := (((idsI m)).length : Int)) rfl rfl) ?_
        refine w_end ?_
        refine c_if (b := (decide ((k59 : Int) < (((idsI m)).length : Int)))) rfl (fun h61 => ?_) (fun h61 => ?_)
        ·
          have p62 := of_decide_eq_true h61
          refine c_skip' ?_
          refine t_norm ?_
          refine c_seq ?_
          refine c_block ?_
          refine c_rs ?_
          refine s1 (v := (.slice A53 (((idsI m)).length) c54)) (rn_mv rfl) ?_
          refine s1 (v := (i64 (k59 : Int))) (rn_mv rfl) ?_
          obtain ⟨x66, o63, hx67, hA64, el65⟩ := hl56.el (k := k59) (by omega)
          refine s1 (v := (ptr g55 (o63 + k59 * 1))) (rn_ie is40 rfl hA64 rfl (by omega) (by omega) rfl) ?_
          refine s1 (v := (i64 x66)) (rn_ld1 o3 rfl (el65 0 _ rfl)) ?_
          refine s1 (v := (i64 n)) (rn_mv rfl) ?_
          refine s1 (v := (.bool (decide (x66 < n)))) (rn_lss (m := x66) (n := n) rfl rfl) ?_
          refine w_end ?_
          refine c_if (b := (decide (x66 < n))) rfl (fun h68 => ?_) (fun h68 => ?_)
          ·
            have p69 := of_decide_eq_true h68
            obtain ⟨i_, hi_, hXi⟩ := idsI_nat hx67
            have hrl := rot_lt (n := n.toNat) (i := x66.toNat) (by omega)
            refine c_drR (n := 10) [.c (S4.val (rotS n.toNat ((idsS m).take k59))), .c (.slice A53 (((idsI m)).length) c54), .c (i64 (k59 : Int)), .c (ptr g55 (o63 + k59 * 1)), .c (i64 x66), .c (i64 (x66 + 1)), .c (i64 n), .c (i64 ((rot n.toNat x66.toNat : Nat) : Int)), .c (.tuple #[(S4.val (withS (rotS n.toNat ((idsS m).take k59)) (Int.toNat ((rot n.toNat x66.toNat : Nat) : Int)))), (i64 0)]), .c (.tuple #[(S4.val (withS (rotS n.toNat ((idsS m).take k59)) (Int.toNat ((rot n.toNat x66.toNat : Nat) : Int)))), (i64 0)])] rfl mixed (by kernel_rfl) ?_
            refine q_v (v := (S4.val (rotS n.toNat ((idsS m).take k59)))) (fun W hC => rn_lbN (vs := (S4.cells (rotS n.toNat ((idsS m).take k59)))) g34 rfl (hb19.ext0 hC) rfl rfl) ?_
            refine q_v (v := (.slice A53 (((idsI m)).length) c54)) (fun W hC => rn_mv rfl) ?_
            refine q_v (v := (i64 (k59 : Int))) (fun W hC => rn_mv rfl) ?_
            refine q_v (v := (ptr g55 (o63 + k59 * 1))) (fun W hC => rn_ie is40 rfl hA64 rfl (by omega) (by omega) rfl) ?_
            refine q_v (v := (i64 x66)) (fun W hC => rn_ld1 o3 rfl ((el65.ext0 hC) 0 _ rfl)) ?_
            refine q_v (v := (i64 (x66 + 1))) (fun W hC => rn_add (m := x66) (n := 1) rfl rfl (wr64 (by omega) (by omega))) ?_
            refine q_v (v := (i64 n)) (fun W hC => rn_mv rfl) ?_
            refine q_v (v := (i64 ((rot n.toNat x66.toNat : Nat) : Int))) (fun W hC => rn_rem (m := x66 + 1) (n := n) rfl rfl (by omega) (tmod_rot (by omega) (by omega))) ?_
            refine q_call e55 (v := (.tuple #[(S4.val (withS (rotS n.toNat ((idsS m).take k59)) (Int.toNat ((rot n.toNat x66.toNat : Nat) : Int)))), (i64 0)])) (vs := [(S4.val (rotS n.toNat ((idsS m).take k59))), (i64 ((rot n.toNat x66.toNat : Nat) : Int))]) rfl (fun W hC => With_c (rotS n.toNat ((idsS m).take k59)) ((rot n.toNat x66.toNat : Nat) : Int) (by omega) (by omega) _) ?_
            refine q_v (v := (.tuple #[(S4.val (withS (rotS n.toNat ((idsS m).take k59)) (Int.toNat ((rot n.toNat x66.toNat : Nat) : Int)))), (i64 0)])) (fun W hC => rn_mv rfl) ?_
            refine ob_end (fun w70 x71 he72 hap73 => ?_)
            replace hE := hE.step0 x71
            replace hb1 := hb1.ext0 x71
            replace hb19 := hb19.ext0 x71
            replace el65 := el65.ext0 x71
            replace hl := hl.ext0 x71
            replace hB7 := hB7.ext0 x71
            replace hB17 := hB17.ext0 x71
            replace hl56 := hl56.ext0 x71
            clear x71
            refine any_go (k := 2) (L := [10, 11]) (by kernel_rfl) (by decide) ?_
            intro i_ hi_
            simp only [List.mem_cons, List.not_mem_nil, or_false] at hi_
            rcases hi_ with rfl | rfl
            ·
              refine ⟨_, rfl, ?_⟩
              refine s1 (v := (S4.val (withS (rotS n.toNat ((idsS m).take k59)) (Int.toNat ((rot n.toNat x66.toNat : Nat) : Int))))) (rn_ex (vs := [(S4.val (withS (rotS n.toNat ((idsS m).take k59)) (Int.toNat ((rot n.toNat x66.toNat : Nat) : Int)))), (i64 0)]) rfl rfl) ?_
              refine w_end ?_
              refine any_go (k := 1) (L := [11, 12]) (by kernel_rfl) (by decide) ?_
              intro i_ hi_
              simp only [List.mem_cons, List.not_mem_nil, or_false] at hi_
              rcases hi_ with rfl | rfl
              ·
                refine ⟨_, rfl, ?_⟩
                refine s1 (v := (i64 0)) (rn_ex (vs := [(S4.val (withS (rotS n.toNat ((idsS m).take k59)) (Int.toNat ((rot n.toNat x66.toNat : Nat) : Int)))), (i64 0)]) rfl rfl) ?_
                refine w_end ?_
                refine any_go (k := 0) (L := [12]) (by kernel_rfl) (by decide) ?_
                intro i_ hi_
                simp only [List.mem_cons, List.not_mem_nil, or_false] at hi_
                rcases hi_ with rfl
                ·
                  refine ⟨_, rfl, ?_⟩
                  refine s_st (v := (S4.val (withS (rotS n.toNat ((idsS m).take k59)) (Int.toNat ((rot n.toNat x66.toNat : Nat) : Int))))) (vs := (S4.cells (withS (rotS n.toNat ((idsS m).take k59)) (Int.toNat ((rot n.toNat x66.toNat : Nat) : Int))))) (cs' := (S4.cells (withS (rotS n.toNat ((idsS m).take k59)) (Int.toNat ((rot n.toNat x66.toNat : Nat) : Int))))) g34.2 rfl rfl rfl rfl hb19 (by simp) rfl rfl (fun w74 h_ x75 => ?_)
                  replace hE := hE.step1 x75 (by first | (left; simp; done) | (right; omega))
                  replace hb1 := hb1.ext1 x75 (by omega)
                  replace el65 := el65.ext1 x75 (by omega)
                  replace hl := hl.ext1 x75 (by omega)
                  replace hB7 := hB7.ext1 x75 (by omega)
                  replace hB17 := hB17.ext1 x75 (by omega)
                  replace hl56 := hl56.ext1 x75 (by omega)
                  clear x75
                  replace hb19 := h_; clear h_
                  refine w_end ?_
                  refine any_end (by kernel_rfl) ?_
                  refine b_norm ?_
                  refine t_norm ?_
                  refine c_r ?_
                  refine s1 (v := (i64 (k59 : Int))) (rn_mv rfl) ?_
                  refine s1 (v := (i64 ((k59 : Int) + 1))) (rn_add (m := (k59 : Int)) (n := 1) rfl rfl (wr64 (by omega) (by omega))) ?_
                  refine s1 (v := (i64 ((k59 : Int) + 1))) (rn_as rfl) ?_
                  refine w_nil ?_
                  refine t_norm ?_
                  replace hb19 : Blk w74 b19 34 (S4.cells (rotS n.toNat ((idsS m).take (k59 + 1)))) := by rw [take_snoc hi_, rotS_snoc, if_pos (by omega)]; rw [show i_ = x66.toNat by omega]; exact hb19
                  exact ⟨((idsI m).length) - (k59 + 1), by omega, k59 + 1, (lk [(i64 n), (.slice A l.length c), (S4.val m), undef, undef, (ptr b1 0), (.bool false), (ptr p4 0), (i64 0), (ptr p14 0), (i64 0), (ptr b19 0), (i64 (k22 : Int)), (z_k22 13), (.slice A53 (((idsI m)).length) c54), (i64 ((k59 : Int) + 1)), undef, undef, undef, undef, undef, undef, (.tuple #[(ptr p4 0), (i64 0)]), (i64 n), (.tuple #[(ptr p4 0), (i64 0)]), (ptr p4 0), (i64 0), (i64 0), (.bool false), (.bool false), (.slice A l.length c), (i64 (l.length : Int)), (.bool (decide (300 < (l.length : Int)))), (.bool (decide (300 < (l.length : Int)))), undef, (.tuple #[(ptr p14 0), (i64 0)]), (i64 n), (i64 n), (i64 (sv : Int)), (.tuple #[(ptr p14 0), (i64 0)]), (ptr p14 0), (i64 0), (i64 (k22 : Int)), (.slice A l.length c), (i64 (l.length : Int)), (.bool (decide ((k22 : Int) < (l.length : Int)))), (z_k22 46), (z_k22 47), (z_k22 48), (z_k22 49), (z_k22 50), (z_k22 51), (z_k22 52), (z_k22 53), (z_k22 54), (z_k22 55), (z_k22 56), (z_k22 57), (z_k22 58), (z_k22 59), (z_k22 60), (z_k22 61), (z_k22 62), (z_k22 63), (z_k22 64), (z_k22 65), (z_k22 66), (z_k22 67), (z_k22 68), (z_k22 69), (z_k22 70), (z_k22 71), (z_k22 72), (S4.val m), (.slice A53 (((idsI m)).length) c54), (i64 (k59 : Int)), (.slice A53 (((idsI m)).length) c54), (i64 (((idsI m)).length : Int)), (.bool (decide ((k59 : Int) < (((idsI m)).length : Int)))), (i64 (k59 : Int)), (i64 ((k59 : Int) + 1)), (.slice A53 (((idsI m)).length) c54), (i64 (k59 : Int)), (ptr g55 (o63 + k59 * 1)), (i64 x66), (i64 n), (.bool (decide (x66 < n))), (.tuple #[(S4.val (withS (rotS n.toNat ((idsS m).take k59)) (Int.toNat ((rot n.toNat x66.toNat : Nat) : Int)))), (i64 0)]), (S4.val (rotS n.toNat ((idsS m).take k59))), (.slice A53 (((idsI m)).length) c54), (i64 (k59 : Int)), (ptr g55 (o63 + k59 * 1)), (i64 x66), (i64 (x66 + 1)), (i64 n), (i64 ((rot n.toNat x66.toNat : Nat) : Int)), (.tuple #[(S4.val (withS (rotS n.toNat ((idsS m).take k59)) (Int.toNat ((rot n.toNat x66.toNat : Nat) : Int)))), (i64 0)]), (S4.val (withS (rotS n.toNat ((idsS m).take k59)) (Int.toNat ((rot n.toNat x66.toNat : Nat) : Int)))), (i64 0), undef, undef, undef, undef, undef, undef, undef, undef, undef, undef, undef, undef, undef, undef, undef, undef, undef, undef, undef, undef, undef, undef, undef, undef, undef, undef, undef, undef, undef, undef, undef, undef, undef, undef, undef, undef, undef, undef, undef, undef, undef, undef, undef, undef, undef]), Fr_congr (by kernel_rfl), rfl, by omega, hE, hb1, hb19, hl, hB7, hB17, hl56⟩
              ·
                refine ⟨_, rfl, ?_⟩
                refine s_st (v := (S4.val (withS (rotS n.toNat ((idsS m).take k59)) (Int.toNat ((rot n.toNat x66.toNat : Nat) : Int))))) (vs := (S4.cells (withS (rotS n.toNat ((idsS m).take k59)) (Int.toNat ((rot n.toNat x66.toNat : Nat) : Int))))) (cs' := (S4.cells (withS (rotS n.toNat ((idsS m).take k59)) (Int.toNat ((rot n.toNat x66.toNat : Nat) : Int))))) g34.2 rfl rfl rfl rfl hb19 (by simp) rfl rfl (fun w76 h_ x77 => ?_)
                replace hE := hE.step1 x77 (by first | (left; simp; done) | (right; omega))
                replace hb1 := hb1.ext1 x77 (by omega)
                replace el65 := el65.ext1 x77 (by omega)
                replace hl := hl.ext1 x77 (by omega)
                replace hB7 := hB7.ext1 x77 (by omega)
                replace hB17 := hB17.ext1 x77 (by omega)
                replace hl56 := hl56.ext1 x77 (by omega)
                clear x77
                replace hb19 := h_; clear h_
                refine w_end ?_
                refine any_go (k := 0) (L := [11]) (by kernel_rfl) (by decide) ?_
                intro i_ hi_
                simp only [List.mem_cons, List.not_mem_nil, or_false] at hi_
                rcases hi_ with rfl
                ·
                  refine ⟨_, rfl, ?_⟩
                  refine s1 (v := (i64 0)) (rn_ex (vs := [(S4.val (withS (rotS n.toNat ((idsS m).take k59)) (Int.toNat ((rot n.toNat x66.toNat : Nat) : Int)))), (i64 0)]) rfl rfl) ?_
                  refine w_end ?_
                  refine any_end (by kernel_rfl) ?_
                  refine b_norm ?_
                  refine t_norm ?_
                  refine c_r ?_
                  refine s1 (v := (i64 (k59 : Int))) (rn_mv rfl) ?_
                  refine s1 (v := (i64 ((k59 : Int) + 1))) (rn_add (m := (k59 : Int)) (n := 1) rfl rfl (wr64 (by omega) (by omega))) ?_
                  refine s1 (v := (i64 ((k59 : Int) + 1))) (rn_as rfl) ?_
                  refine w_nil ?_
                  refine t_norm ?_
                  replace hb19 : Blk w76 b19 34 (S4.cells (rotS n.toNat ((idsS m).take (k59 + 1)))) := by rw [take_snoc hi_, rotS_snoc, if_pos (by omega)]; rw [show i_ = x66.toNat by omega]; exact hb19
                  exact ⟨((idsI m).length) - (k59 + 1), by omega, k59 + 1, (lk [(i64 n), (.slice A l.length c), (S4.val m), undef, undef, (ptr b1 0), (.bool false), (ptr p4 0), (i64 0), (ptr p14 0), (i64 0), (ptr b19 0), (i64 (k22 : Int)), (z_k22 13), (.slice A53 (((idsI m)).length) c54), (i64 ((k59 : Int) + 1)), undef, undef, undef, undef, undef, undef, (.tuple #[(ptr p4 0), (i64 0)]), (i64 n), (.tuple #[(ptr p4 0), (i64 0)]), (ptr p4 0), (i64 0), (i64 0), (.bool false), (.bool false), (.slice A l.length c), (i64 (l.length : Int)), (.bool (decide (300 < (l.length : Int)))), (.bool (decide (300 < (l.length : Int)))), undef, (.tuple #[(ptr p14 0), (i64 0)]), (i64 n), (i64 n), (i64 (sv : Int)), (.tuple #[(ptr p14 0), (i64 0)]), (ptr p14 0), (i64 0), (i64 (k22 : Int)), (.slice A l.length c), (i64 (l.length : Int)), (.bool (decide ((k22 : Int) < (l.length : Int)))), (z_k22 46), (z_k22 47), (z_k22 48), (z_k22 49), (z_k22 50), (z_k22 51), (z_k22 52), (z_k22 53), (z_k22 54), (z_k22 55), (z_k22 56), (z_k22 57), (z_k22 58), (z_k22 59), (z_k22 60), (z_k22 61), (z_k22 62), (z_k22 63), (z_k22 64), (z_k22 65), (z_k22 66), (z_k22 67), (z_k22 68), (z_k22 69), (z_k22 70), (z_k22 71), (z_k22 72), (S4.val m), (.slice A53 (((idsI m)).length) c54), (i64 (k59 : Int)), (.slice A53 (((idsI m)).length) c54), (i64 (((idsI m)).length : Int)), (.bool (decide ((k59 : Int) < (((idsI m)).length : Int)))), (i64 (k59 : Int)), (i64 ((k59 : Int) + 1)), (.slice A53 (((idsI m)).length) c54), (i64 (k59 : Int)), (ptr g55 (o63 + k59 * 1)), (i64 x66), (i64 n), (.bool (decide (x66 < n))), (.tuple #[(S4.val (withS (rotS n.toNat ((idsS m).take k59)) (Int.toNat ((rot n.toNat x66.toNat : Nat) : Int)))), (i64 0)]), (S4.val (rotS n.toNat ((idsS m).take k59))), (.slice A53 (((idsI m)).length) c54), (i64 (k59 : Int)), (ptr g55 (o63 + k59 * 1)), (i64 x66), (i64 (x66 + 1)), (i64 n), (i64 ((rot n.toNat x66.toNat : Nat) : Int)), (.tuple #[(S4.val (withS (rotS n.toNat ((idsS m).take k59)) (Int.toNat ((rot n.toNat x66.toNat : Nat) : Int)))), (i64 0)]), (S4.val (withS (rotS n.toNat ((idsS m).take k59)) (Int.toNat ((rot n.toNat x66.toNat : Nat) : Int)))), (i64 0), undef, undef, undef, undef, undef, undef, undef, undef, undef, undef, undef, undef, undef, undef, undef, undef, undef, undef, undef, undef, undef, undef, undef, undef, undef, undef, undef, undef, undef, undef, undef, undef, undef, undef, undef, undef, undef, undef, undef, undef, undef, undef, undef, undef, undef]), Fr_congr (by kernel_rfl), rfl, by omega, hE, hb1, hb19, hl, hB7, hB17, hl56⟩
            ·
              refine ⟨_, rfl, ?_⟩
              refine s1 (v := (i64 0)) (rn_ex (vs := [(S4.val (withS (rotS n.toNat ((idsS m).take k59)) (Int.toNat ((rot n.toNat x66.toNat : Nat) : Int)))), (i64 0)]) rfl rfl) ?_
              refine w_end ?_
              refine any_go (k := 1) (L := [10]) (by kernel_rfl) (by decide) ?_
              intro i_ hi_
              simp only [List.mem_cons, List.not_mem_nil, or_false] at hi_
              rcases hi_ with rfl
              ·
                refine ⟨_, rfl, ?_⟩
                refine s1 (v := (S4.val (withS (rotS n.toNat ((idsS m).take k59)) (Int.toNat ((rot n.toNat x66.toNat : Nat) : Int))))) (rn_ex (vs := [(S4.val (withS (rotS n.toNat ((idsS m).take k59)) (Int.toNat ((rot n.toNat x66.toNat : Nat) : Int)))), (i64 0)]) rfl rfl) ?_
                refine w_end ?_
                refine any_go (k := 0) (L := [12]) (by kernel_rfl) (by decide) ?_
                intro i_ hi_
                simp only [List.mem_cons, List.not_mem_nil, or_false] at hi_
                rcases hi_ with rfl
                ·
                  refine ⟨_, rfl, ?_⟩
                  refine s_st (v := (S4.val (withS (rotS n.toNat ((idsS m).take k59)) (Int.toNat ((rot n.toNat x66.toNat : Nat) : Int))))) (vs := (S4.cells (withS (rotS n.toNat ((idsS m).take k59)) (Int.toNat ((rot n.toNat x66.toNat : Nat) : Int))))) (cs' := (S4.cells (withS (rotS n.toNat ((idsS m).take k59)) (Int.toNat ((rot n.toNat x66.toNat : Nat) : Int))))) g34.2 rfl rfl rfl rfl hb19 (by simp) rfl rfl (fun w78 h_ x79 => ?_)
                  replace hE := hE.step1 x79 (by first | (left; simp; done) | (right; omega))
                  replace hb1 := hb1.ext1 x79 (by omega)
                  replace el65 := el65.ext1 x79 (by omega)
                  replace hl := hl.ext1 x79 (by omega)
                  replace hB7 := hB7.ext1 x79 (by omega)
                  replace hB17 := hB17.ext1 x79 (by omega)
                  replace hl56 := hl56.ext1 x79 (by omega)
                  clear x79
                  replace hb19 := h_; clear h_
                  refine w_end ?_
                  refine any_end (by kernel_rfl) ?_
                  refine b_norm ?_
                  refine t_norm ?_
                  refine c_r ?_
                  refine s1 (v := (i64 (k59 : Int))) (rn_mv rfl) ?_
                  refine s1 (v := (i64 ((k59 : Int) + 1))) (rn_add (m := (k59 : Int)) (n := 1) rfl rfl (wr64 (by omega) (by omega))) ?_
                  refine s1 (v := (i64 ((k59 : Int) + 1))) (rn_as rfl) ?_
                  refine w_nil ?_
                  refine t_norm ?_
                  replace hb19 : Blk w78 b19 34 (S4.cells (rotS n.toNat ((idsS m).take (k59 + 1)))) := by rw [take_snoc hi_, rotS_snoc, if_pos (by omega)]; rw [show i_ = x66.toNat by omega]; exact hb19
                  exact ⟨((idsI m).length) - (k59 + 1), by omega, k59 + 1, (lk [(i64 n), (.slice A l.length c), (S4.val m), undef, undef, (ptr b1 0), (.bool false), (ptr p4 0), (i64 0), (ptr p14 0), (i64 0), (ptr b19 0), (i64 (k22 : Int)), (z_k22 13), (.slice A53 (((idsI m)).length) c54), (i64 ((k59 : Int) + 1)), undef, undef, undef, undef, undef, undef, (.tuple #[(ptr p4 0), (i64 0)]), (i64 n), (.tuple #[(ptr p4 0), (i64 0)]), (ptr p4 0), (i64 0), (i64 0), (.bool false), (.bool false), (.slice A l.length c), (i64 (l.length : Int)), (.bool (decide (300 < (l.length : Int)))), (.bool (decide (300 < (l.length : Int)))), undef, (.tuple #[(ptr p14 0), (i64 0)]), (i64 n), (i64 n), (i64 (sv : Int)), (.tuple #[(ptr p14 0), (i64 0)]), (ptr p14 0), (i64 0), (i64 (k22 : Int)), (.slice A l.length c), (i64 (l.length : Int)), (.bool (decide ((k22 : Int) < (l.length : Int)))), (z_k22 46), (z_k22 47), (z_k22 48), (z_k22 49), (z_k22 50), (z_k22 51), (z_k22 52), (z_k22 53), (z_k22 54), (z_k22 55), (z_k22 56), (z_k22 57), (z_k22 58), (z_k22 59), (z_k22 60), (z_k22 61), (z_k22 62), (z_k22 63), (z_k22 64), (z_k22 65), (z_k22 66), (z_k22 67), (z_k22 68), (z_k22 69), (z_k22 70), (z_k22 71), (z_k22 72), (S4.val m), (.slice A53 (((idsI m)).length) c54), (i64 (k59 : Int)), (.slice A53 (((idsI m)).length) c54), (i64 (((idsI m)).length : Int)), (.bool (decide ((k59 : Int) < (((idsI m)).length : Int)))), (i64 (k59 : Int)), (i64 ((k59 : Int) + 1)), (.slice A53 (((idsI m)).length) c54), (i64 (k59 : Int)), (ptr g55 (o63 + k59 * 1)), (i64 x66), (i64 n), (.bool (decide (x66 < n))), (.tuple #[(S4.val (withS (rotS n.toNat ((idsS m).take k59)) (Int.toNat ((rot n.toNat x66.toNat : Nat) : Int)))), (i64 0)]), (S4.val (rotS n.toNat ((idsS m).take k59))), (.slice A53 (((idsI m)).length) c54), (i64 (k59 : Int)), (ptr g55 (o63 + k59 * 1)), (i64 x66), (i64 (x66 + 1)), (i64 n), (i64 ((rot n.toNat x66.toNat : Nat) : Int)), (.tuple #[(S4.val (withS (rotS n.toNat ((idsS m).take k59)) (Int.toNat ((rot n.toNat x66.toNat : Nat) : Int)))), (i64 0)]), (S4.val (withS (rotS n.toNat ((idsS m).take k59)) (Int.toNat ((rot n.toNat x66.toNat : Nat) : Int)))), (i64 0), undef, undef, undef, undef, undef, undef, undef, undef, undef, undef, undef, undef, undef, undef, undef, undef, undef, undef, undef, undef, undef, undef, undef, undef, undef, undef, undef, undef, undef, undef, undef, undef, undef, undef, undef, undef, undef, undef, undef, undef, undef, undef, undef, undef, undef]), Fr_congr (by kernel_rfl), rfl, by omega, hE, hb1, hb19, hl, hB7, hB17, hl56⟩
          ·
            have p80 := of_decide_eq_false h68
            refine c_skip' ?_
            refine b_norm ?_
            refine t_norm ?_
            refine c_r ?_
            refine s1 (v := (i64 (k59 : Int))) (rn_mv rfl) ?_
            refine s1 (v := (i64 ((k59 : Int) + 1))) (rn_add (m := (k59 : Int)) (n := 1) rfl rfl (wr64 (by omega) (by omega))) ?_
            refine s1 (v := (i64 ((k59 : Int) + 1))) (rn_as rfl) ?_
            refine w_nil ?_
            refine t_norm ?_
            obtain ⟨i_, hi_, hXi⟩ := idsI_nat hx67
            replace hb19 : Blk w60 b19 34 (S4.cells (rotS n.toNat ((idsS m).take (k59 + 1)))) := by rw [take_snoc hi_, rotS_snoc, if_neg (by omega)]; exact hb19
            exact ⟨((idsI m).length) - (k59 + 1), by omega, k59 + 1, (lk [(i64 n), (.slice A l.length c), (S4.val m), undef, undef, (ptr b1 0), (.bool false), (ptr p4 0), (i64 0), (ptr p14 0), (i64 0), (ptr b19 0), (i64 (k22 : Int)), (z_k22 13), (.slice A53 (((idsI m)).length) c54), (i64 ((k59 : Int) + 1)), undef, undef, undef, undef, undef, undef, (.tuple #[(ptr p4 0), (i64 0)]), (i64 n), (.tuple #[(ptr p4 0), (i64 0)]), (ptr p4 0), (i64 0), (i64 0), (.bool false), (.bool false), (.slice A l.length c), (i64 (l.length : Int)), (.bool (decide (300 < (l.length : Int)))), (.bool (decide (300 < (l.length : Int)))), undef, (.tuple #[(ptr p14 0), (i64 0)]), (i64 n), (i64 n), (i64 (sv : Int)), (.tuple #[(ptr p14 0), (i64 0)]), (ptr p14 0), (i64 0), (i64 (k22 : Int)), (.slice A l.length c), (i64 (l.length : Int)), (.bool (decide ((k22 : Int) < (l.length : Int)))), (z_k22 46), (z_k22 47), (z_k22 48), (z_k22 49), (z_k22 50), (z_k22 51), (z_k22 52), (z_k22 53), (z_k22 54), (z_k22 55), (z_k22 56), (z_k22 57), (z_k22 58), (z_k22 59), (z_k22 60), (z_k22 61), (z_k22 62), (z_k22 63), (z_k22 64), (z_k22 65), (z_k22 66), (z_k22 67), (z_k22 68), (z_k22 69), (z_k22 70), (z_k22 71), (z_k22 72), (S4.val m), (.slice A53 (((idsI m)).length) c54), (i64 (k59 : Int)), (.slice A53 (((idsI m)).length) c54), (i64 (((idsI m)).length : Int)), (.bool (decide ((k59 : Int) < (((idsI m)).length : Int)))), (i64 (k59 : Int)), (i64 ((k59 : Int) + 1)), (.slice A53 (((idsI m)).length) c54), (i64 (k59 : Int)), (ptr g55 (o63 + k59 * 1)), (i64 x66), (i64 n), (.bool (decide (x66 < n))), (z_k59 87), (z_k59 88), (z_k59 89), (z_k59 90), (z_k59 91), (z_k59 92), (z_k59 93), (z_k59 94), (z_k59 95), (z_k59 96), (z_k59 97), (z_k59 98), undef, undef, undef, undef, undef, undef, undef, undef, undef, undef, undef, undef, undef, undef, undef, undef, undef, undef, undef, undef, undef, undef, undef, undef, undef, undef, undef, undef, undef, undef, undef, undef, undef, undef, undef, undef, undef, undef, undef, undef, undef, undef, undef, undef, undef]), Fr_congr (by kernel_rfl), rfl, by omega, hE, hb1, hb19, hl, hB7, hB17, hl56⟩
        ·
          have p81 := of_decide_eq_false h61
          refine c_exit ?_
          refine t_exit ?_
          refine t_exit ?_
          refine b_here ?_
          refine t_norm ?_
          replace hb19 : Blk w60 b19 34 (S4.cells (rotS n.toNat (idsS m))) := by rw [show k59 = (idsS m).length by omega, List.take_length] at hb19; exact hb19
          refine c_seq ?_
          refine c_dr (n := 6) [.c (ptr p4 0), .c (S4.val m), .s (SLf N3.cells 3 w60.heap.size (doubtsL X23 (idsS m))), .c (ptr p14 0), .c (S4.val (rotS n.toNat (idsS m))), .s (SLf N3.cells 3 w60.heap.size (doubtsL Y24 (idsS (rotS n.toNat (idsS m)))))] rfl mixed (by kernel_rfl) ?_
          refine q_v (v := (ptr p4 0)) (fun W hC => rn_mv rfl) ?_
          refine q_v (v := (S4.val m)) (fun W hC => rn_lbN (vs := (S4.cells m)) g34 rfl (hb1.ext0 hC) rfl rfl) ?_
          refine q_callS (SLf N3.cells 3 w60.heap.size (doubtsL X23 (idsS m))) (fun _ _ _ _ _ h x => h.ext0 x) e56 (vs := [(ptr p4 0), (S4.val m)]) rfl (fun W hC _ => (have hsz_ := hC.size; slf_of (by simp) (by omega) (Doubts_c (hB7.ext0 hC) (by omega) m))) (fun v96 lov96 hiv96 => ?_)
          refine q_v (v := (ptr p14 0)) (fun W hC => rn_mv rfl) ?_
          refine q_v (v := (S4.val (rotS n.toNat (idsS m)))) (fun W hC => rn_lbN (vs := (S4.cells (rotS n.toNat (idsS m)))) g34 rfl (hb19.ext0 hC) rfl rfl) ?_
          refine q_callS (SLf N3.cells 3 w60.heap.size (doubtsL Y24 (idsS (rotS n.toNat (idsS m))))) (fun _ _ _ _ _ h x => h.ext0 x) e56 (vs := [(ptr p14 0), (S4.val (rotS n.toNat (idsS m)))]) rfl (fun W hC _ => (have hsz_ := hC.size; slf_of (by simp) (by omega) (Doubts_c (hB17.ext0 hC) (by omega) (rotS n.toNat (idsS m))))) (fun v101 lov101 hiv101 => ?_)
          refine ob_end (fun w102 x103 he104 hap105 => ?_)
          obtain ⟨A106, c107, g108, rfl, hl109, jg108⟩ := he104 2
          have gg108 := jg108.imp_left (fun q => q.1)
          have dg108 := gg108.imp_left (fun q => And.intro (Nat.le_trans hE.size q) (And.intro (Nat.lt_of_lt_of_le hb1.lt q) (And.intro (Nat.lt_of_lt_of_le hb19.lt q) (And.intro (Nat.lt_of_lt_of_le hB7.ltp q) (And.intro (Nat.lt_of_lt_of_le hB7.ltb q) (And.intro (Nat.lt_of_lt_of_le hB17.ltp q) (Nat.lt_of_lt_of_le hB17.ltb q)))))))
          clear gg108
          obtain ⟨A110, c111, g112, rfl, hl113, jg112⟩ := he104 5
          have gg112 := jg112.imp_left (fun q => q.1)
          have dg112 := gg112.imp_left (fun q => And.intro (Nat.le_trans hE.size q) (And.intro (Nat.lt_of_lt_of_le hb1.lt q) (And.intro (Nat.lt_of_lt_of_le hb19.lt q) (And.intro (Nat.lt_of_lt_of_le hB7.ltp q) (And.intro (Nat.lt_of_lt_of_le hB7.ltb q) (And.intro (Nat.lt_of_lt_of_le hB17.ltp q) (Nat.lt_of_lt_of_le hB17.ltb q)))))))
          clear gg112
          simp only [Apt, List.nil_append, List.cons_append, List.pairwise_cons, List.mem_cons, List.not_mem_nil, or_false, forall_eq_or_imp, forall_eq, List.Pairwise.nil, and_true, implies_true] at hap105
          replace hE := hE.step0 x103
          replace hb1 := hb1.ext0 x103
          replace hb19 := hb19.ext0 x103
          replace hl := hl.ext0 x103
          replace hB7 := hB7.ext0 x103
          replace hB17 := hB17.ext0 x103
          replace hl56 := hl56.ext0 x103
          clear x103
          refine s1 (v := (.slice A106 ((doubtsL X23 (idsS m)).length) c107)) (rn_as rfl) ?_
          refine s1 (v := (.slice A110 ((doubtsL Y24 (idsS (rotS n.toNat (idsS m)))).length) c111)) (rn_as rfl) ?_
          refine w_end ?_
          refine c_seq ?_
          refine c_rs ?_
          have hN := named_law (n := n.toNat) (by omega) gX gY hR hmw
          have hdl := doubtsL_le X23 (idsS m)
          refine s1 (v := (.slice A106 ((doubtsL X23 (idsS m)).length) c107)) (rn_mv rfl) ?_
          refine s1 (v := (i64 ((doubtsL X23 (idsS m)).length : Int))) (rn_len is22 rfl) ?_
          refine s1 (v := (.slice A110 ((doubtsL Y24 (idsS (rotS n.toNat (idsS m)))).length) c111)) (rn_mv rfl) ?_
          refine s1 (v := (i64 ((doubtsL Y24 (idsS (rotS n.toNat (idsS m)))).length : Int))) (rn_len is22 rfl) ?_
          refine s1 (v := (.bool (decide (((doubtsL X23 (idsS m)).length : Int) ≠ ((doubtsL Y24 (idsS (rotS n.toNat (idsS m)))).length : Int))))) (rn_neq (m := ((doubtsL X23 (idsS m)).length : Int)) (n := ((doubtsL Y24 (idsS (rotS n.toNat (idsS m)))).length : Int)) rfl rfl) ?_
          refine w_end ?_
          refine c_F (b := (decide (((doubtsL X23 (idsS m)).length : Int) ≠ ((doubtsL Y24 (idsS (rotS n.toNat (idsS m)))).length : Int)))) rfl (decide_eq_false (by rw [hN.1]; exact fun h_ => h_ rfl)) ?_
          refine c_skip' ?_
          refine t_norm ?_
          refine c_seq ?_
          refine c_rs ?_
          refine s1 (v := (i64 0)) (rn_as rfl) ?_
          refine w_end ?_
          refine c_block ?_
          refine c_loop (fun d a w => ∃ (k114 : Nat) (z_k114 : Nat → Value) , a = Fr 144 (lk [(i64 n), (.slice A l.length c), (S4.val m), undef, undef, (ptr b1 0), (z_k114 6), (ptr p4 0), (i64 0), (ptr p14 0), (i64 0), (ptr b19 0), (i64 (k22 : Int)), (z_k22 13), (.slice A53 (((idsI m)).length) c54), (i64 (k59 : Int)), (.slice A106 ((doubtsL X23 (idsS m)).length) c107), (.slice A110 ((doubtsL Y24 (idsS (rotS n.toNat (idsS m)))).length) c111), (i64 (k114 : Int)), (z_k114 19), (z_k114 20), (z_k114 21), (.tuple #[(ptr p4 0), (i64 0)]), (i64 n), (.tuple #[(ptr p4 0), (i64 0)]), (ptr p4 0), (i64 0), (i64 0), (.bool false), (.bool false), (.slice A l.length c), (i64 (l.length : Int)), (.bool (decide (300 < (l.length : Int)))), (.bool (decide (300 < (l.length : Int)))), undef, (.tuple #[(ptr p14 0), (i64 0)]), (i64 n), (i64 n), (i64 (sv : Int)), (.tuple #[(ptr p14 0), (i64 0)]), (ptr p14 0), (i64 0), (i64 (k22 : Int)), (.slice A l.length c), (i64 (l.length : Int)), (.bool (decide ((k22 : Int) < (l.length : Int)))), (z_k22 46), (z_k22 47), (z_k22 48), (z_k22 49), (z_k22 50), (z_k22 51), (z_k22 52), (z_k22 53), (z_k22 54), (z_k22 55), (z_k22 56), (z_k22 57), (z_k22 58), (z_k22 59), (z_k22 60), (z_k22 61), (z_k22 62), (z_k22 63), (z_k22 64), (z_k22 65), (z_k22 66), (z_k22 67), (z_k22 68), (z_k22 69), (z_k22 70), (z_k22 71), (z_k22 72), (S4.val m), (.slice A53 (((idsI m)).length) c54), (i64 (k59 : Int)), (.slice A53 (((idsI m)).length) c54), (i64 (((idsI m)).length : Int)), (.bool (decide ((k59 : Int) < (((idsI m)).length : Int)))), (z_k59 79), (z_k59 80), (z_k59 81), (z_k59 82), (z_k59 83), (z_k59 84), (z_k59 85), (z_k59 86), (z_k59 87), (z_k59 88), (z_k59 89), (z_k59 90), (z_k59 91), (z_k59 92), (z_k59 93), (z_k59 94), (z_k59 95), (z_k59 96), (z_k59 97), (z_k59 98), (ptr p4 0), (S4.val m), (.slice A106 ((doubtsL X23 (idsS m)).length) c107), (ptr p14 0), (S4.val (rotS n.toNat (idsS m))), (.slice A110 ((doubtsL Y24 (idsS (rotS n.toNat (idsS m)))).length) c111), (.slice A106 ((doubtsL X23 (idsS m)).length) c107), (i64 ((doubtsL X23 (idsS m)).length : Int)), (.slice A110 ((doubtsL Y24 (idsS (rotS n.toNat (idsS m)))).length) c111), (i64 ((doubtsL Y24 (idsS (rotS n.toNat (idsS m)))).length : Int)), (.bool (decide (((doubtsL X23 (idsS m)).length : Int) ≠ ((doubtsL Y24 (idsS (rotS n.toNat (idsS m)))).length : Int)))), (z_k114 110), (z_k114 111), (z_k114 112), (z_k114 113), (z_k114 114), (z_k114 115), (z_k114 116), (z_k114 117), (z_k114 118), (z_k114 119), (z_k114 120), (z_k114 121), (z_k114 122), (z_k114 123), (z_k114 124), (z_k114 125), (z_k114 126), (z_k114 127), (z_k114 128), (z_k114 129), (z_k114 130), (z_k114 131), (z_k114 132), (z_k114 133), (z_k114 134), (z_k114 135), (z_k114 136), (z_k114 137), (z_k114 138), (z_k114 139), (z_k114 140), (z_k114 141), (z_k114 142), undef]) [] ∧ d = ((doubtsL X23 (idsS m)).length) - k114 ∧ k114 ≤ (doubtsL X23 (idsS m)).length ∧ Ext [] w0 w ∧ Blk w b1 34 (S4.cells m) ∧ Blk w b19 34 (S4.cells (rotS n.toNat (idsS m))) ∧ Ls N3.cells 3 w gl A l ∧ Bk w p4 bb5 X23 ∧ Bk w p14 bb15 Y24 ∧ Ls I1.cells 1 w g55 A53 (idsI m) ∧ Ls N3.cells 3 w g108 A106 (doubtsL X23 (idsS m)) ∧ Ls N3.cells 3 w g112 A110 (doubtsL Y24 (idsS (rotS n.toNat (idsS m))))) (((doubtsL X23 (idsS m)).length) - 0) ?_ ?_
          · exact ⟨0, (lk [(i64 n), (.slice A l.length c), (S4.val m), undef, undef, (ptr b1 0), (.bool false), (ptr p4 0), (i64 0), (ptr p14 0), (i64 0), (ptr b19 0), (i64 (k22 : Int)), (z_k22 13), (.slice A53 (((idsI m)).length) c54), (i64 (k59 : Int)), (.slice A106 ((doubtsL X23 (idsS m)).length) c107), (.slice A110 ((doubtsL Y24 (idsS (rotS n.toNat (idsS m)))).length) c111), (i64 0), undef, undef, undef, (.tuple #[(ptr p4 0), (i64 0)]), (i64 n), (.tuple #[(ptr p4 0), (i64 0)]), (ptr p4 0), (i64 0), (i64 0), (.bool false), (.bool false), (.slice A l.length c), (i64 (l.length : Int)), (.bool (decide (300 < (l.length : Int)))), (.bool (decide (300 < (l.length : Int)))), undef, (.tuple #[(ptr p14 0), (i64 0)]), (i64 n), (i64 n), (i64 (sv : Int)), (.tuple #[(ptr p14 0), (i64 0)]), (ptr p14 0), (i64 0), (i64 (k22 : Int)), (.slice A l.length c), (i64 (l.length : Int)), (.bool (decide ((k22 : Int) < (l.length : Int)))), (z_k22 46), (z_k22 47), (z_k22 48), (z_k22 49), (z_k22 50), (z_k22 51), (z_k22 52), (z_k22 53), (z_k22 54), (z_k22 55), (z_k22 56), (z_k22 57), (z_k22 58), (z_k22 59), (z_k22 60), (z_k22 61), (z_k22 62), (z_k22 63), (z_k22 64), (z_k22 65), (z_k22 66), (z_k22 67), (z_k22 68), (z_k22 69), (z_k22 70), (z_k22 71), (z_k22 72), (S4.val m), (.slice A53 (((idsI m)).length) c54), (i64 (k59 : Int)), (.slice A53 (((idsI m)).length) c54), (i64 (((idsI m)).length : Int)), (.bool (decide ((k59 : Int) < (((idsI m)).length : Int)))), (z_k59 79), (z_k59 80), (z_k59 81), (z_k59 82), (z_k59 83), (z_k59 84), (z_k59 85), (z_k59 86), (z_k59 87), (z_k59 88), (z_k59 89), (z_k59 90), (z_k59 91), (z_k59 92), (z_k59 93), (z_k59 94), (z_k59 95), (z_k59 96), (z_k59 97), (z_k59 98), (ptr p4 0), (S4.val m), (.slice A106 ((doubtsL X23 (idsS m)).length) c107), (ptr p14 0), (S4.val (rotS n.toNat (idsS m))), (.slice A110 ((doubtsL Y24 (idsS (rotS n.toNat (idsS m)))).length) c111), (.slice A106 ((doubtsL X23 (idsS m)).length) c107), (i64 ((doubtsL X23 (idsS m)).length : Int)), (.slice A110 ((doubtsL Y24 (idsS (rotS n.toNat (idsS m)))).length) c111), (i64 ((doubtsL Y24 (idsS (rotS n.toNat (idsS m)))).length : Int)), (.bool (decide (((doubtsL X23 (idsS m)).length : Int) ≠ ((doubtsL Y24 (idsS (rotS n.toNat (idsS m)))).length : Int)))), undef, undef, undef, undef, undef, undef, undef, undef, undef, undef, undef, undef, undef, undef, undef, undef, undef, undef, undef, undef, undef, undef, undef, undef, undef, undef, undef, undef, undef, undef, undef, undef, undef, undef]), Fr_congr (by kernel_rfl), rfl, Nat.zero_le _, hE, hb1, hb19, hl, hB7, hB17, hl56, hl109, hl113⟩
          clear hE
          clear hb1
          clear hb19
          clear hl
          clear hB7
          clear hB17
          clear hl56
          clear hl109
          clear hl113
          rintro d a w115 ⟨k114, z_k114, rfl, rfl, hlek114, hE, hb1, hb19, hl, hB7, hB17, hl56, hl109, hl113⟩
          refine c_seq ?_
          refine c_rs ?_
          refine s1 (v := (i64 (k114 : Int))) (rn_mv rfl) ?_
          refine s1 (v := (.slice A106 ((doubtsL X23 (idsS m)).length) c107)) (rn_mv rfl) ?_
          refine s1 (v := (i64 ((doubtsL X23 (idsS m)).length : Int))) (rn_len is22 rfl) ?_
          refine s1 (v := (.bool (decide ((k114 : Int) < ((doubtsL X23 (idsS m)).length : Int))))) (rn_lss (m := (k114 : Int)) (n := ((doubtsL X23 (idsS m)).length : Int)) rfl rfl) ?_
          refine w_end ?_
          refine c_if (b := (decide ((k114 : Int) < ((doubtsL X23 (idsS m)).length : Int)))) rfl (fun h116 => ?_) (fun h116 => ?_)
          ·
            have p117 := of_decide_eq_true h116
            refine c_skip' ?_
            refine t_norm ?_
            refine c_seq ?_
            refine c_block ?_
            refine c_rs ?_
            refine s1 (v := (.slice A106 ((doubtsL X23 (idsS m)).length) c107)) (rn_mv rfl) ?_
            refine s1 (v := (i64 (k114 : Int))) (rn_mv rfl) ?_
            obtain ⟨x121, o118, hx122, hA119, el120⟩ := hl109.el (k := k114) (by omega)
            refine s1 (v := (ptr g108 (o118 + k114 * 3))) (rn_ie is22 rfl hA119 rfl (by omega) (by omega) rfl) ?_
            refine s1 (v := (N3.val x121)) (rn_ldN (vs := (N3.cells x121)) g28 rfl rfl el120) ?_
            refine s_alloc (cs := [(i64 0), (i64 0), (i64 0)]) z28 rfl (fun b123 w124 hb123 gb123 x125 => ?_)
            have nb123_hE : w0.heap.size ≤ b123 := Nat.le_trans hE.size gb123
            have ob123 : b19 < b123 := Nat.lt_of_lt_of_le hb19.lt gb123
            have ob123_hB7 : p4 < b123 ∧ bb5 < b123 := ⟨Nat.lt_of_lt_of_le hB7.ltp gb123, Nat.lt_of_lt_of_le hB7.ltb gb123⟩
            have ob123_hB17 : p14 < b123 ∧ bb15 < b123 := ⟨Nat.lt_of_lt_of_le hB17.ltp gb123, Nat.lt_of_lt_of_le hB17.ltb gb123⟩
            replace dg55 := orAnd dg55 ((hl56.lt (by simp)).imp_left (fun q => Nat.lt_of_lt_of_le q gb123))
            replace dg108 := orAnd dg108 ((hl109.lt (by simp)).imp_left (fun q => Nat.lt_of_lt_of_le q gb123))
            replace dg112 := orAnd dg112 ((hl113.lt (by simp)).imp_left (fun q => Nat.lt_of_lt_of_le q gb123))
            clear gb123
            replace hE := hE.step0 x125
            replace hb1 := hb1.ext0 x125
            replace hb19 := hb19.ext0 x125
            replace el120 := el120.ext0 x125
            replace hl := hl.ext0 x125
            replace hB7 := hB7.ext0 x125
            replace hB17 := hB17.ext0 x125
            replace hl56 := hl56.ext0 x125
            replace hl109 := hl109.ext0 x125
            replace hl113 := hl113.ext0 x125
            clear x125
            refine s_st (v := (N3.val x121)) (vs := (N3.cells x121)) (cs' := (N3.cells x121)) g28.2 rfl rfl rfl rfl hb123 (by simp) rfl rfl (fun w126 h_ x127 => ?_)
            replace hE := hE.step1 x127 (by first | (left; simp; done) | (right; omega))
            replace hb1 := hb1.ext1 x127 (by omega)
            replace hb19 := hb19.ext1 x127 (by omega)
            replace el120 := el120.ext1 x127 (by omega)
            replace hl := hl.ext1 x127 (by omega)
            replace hB7 := hB7.ext1 x127 (by omega)
            replace hB17 := hB17.ext1 x127 (by omega)
            replace hl56 := hl56.ext1 x127 (by omega)
            replace hl109 := hl109.ext1 x127 (by omega)
            replace hl113 := hl113.ext1 x127 (by omega)
            clear x127
            replace hb123 := h_; clear h_
            refine w_end ?_
            refine fr_eq (l' := (lk [(i64 n), (.slice A l.length c), (S4.val m), undef, undef, (ptr b1 0), (z_k114 6), (ptr p4 0), (i64 0), (ptr p14 0), (i64 0), (ptr b19 0), (i64 (k22 : Int)), (z_k22 13), (.slice A53 (((idsI m)).length) c54), (i64 (k59 : Int)), (.slice A106 ((doubtsL X23 (idsS m)).length) c107), (.slice A110 ((doubtsL Y24 (idsS (rotS n.toNat (idsS m)))).length) c111), (i64 (k114 : Int)), (ptr b123 0), (z_k114 20), (z_k114 21), (.tuple #[(ptr p4 0), (i64 0)]), (i64 n), (.tuple #[(ptr p4 0), (i64 0)]), (ptr p4 0), (i64 0), (i64 0), (.bool false), (.bool false), (.slice A l.length c), (i64 (l.length : Int)), (.bool (decide (300 < (l.length : Int)))), (.bool (decide (300 < (l.length : Int)))), undef, (.tuple #[(ptr p14 0), (i64 0)]), (i64 n), (i64 n), (i64 (sv : Int)), (.tuple #[(ptr p14 0), (i64 0)]), (ptr p14 0), (i64 0), (i64 (k22 : Int)), (.slice A l.length c), (i64 (l.length : Int)), (.bool (decide ((k22 : Int) < (l.length : Int)))), (z_k22 46), (z_k22 47), (z_k22 48), (z_k22 49), (z_k22 50), (z_k22 51), (z_k22 52), (z_k22 53), (z_k22 54), (z_k22 55), (z_k22 56), (z_k22 57), (z_k22 58), (z_k22 59), (z_k22 60), (z_k22 61), (z_k22 62), (z_k22 63), (z_k22 64), (z_k22 65), (z_k22 66), (z_k22 67), (z_k22 68), (z_k22 69), (z_k22 70), (z_k22 71), (z_k22 72), (S4.val m), (.slice A53 (((idsI m)).length) c54), (i64 (k59 : Int)), (.slice A53 (((idsI m)).length) c54), (i64 (((idsI m)).length : Int)), (.bool (decide ((k59 : Int) < (((idsI m)).length : Int)))), (z_k59 79), (z_k59 80), (z_k59 81), (z_k59 82), (z_k59 83), (z_k59 84), (z_k59 85), (z_k59 86), (z_k59 87), (z_k59 88), (z_k59 89), (z_k59 90), (z_k59 91), (z_k59 92), (z_k59 93), (z_k59 94), (z_k59 95), (z_k59 96), (z_k59 97), (z_k59 98), (ptr p4 0), (S4.val m), (.slice A106 ((doubtsL X23 (idsS m)).length) c107), (ptr p14 0), (S4.val (rotS n.toNat (idsS m))), (.slice A110 ((doubtsL Y24 (idsS (rotS n.toNat (idsS m)))).length) c111), (.slice A106 ((doubtsL X23 (idsS m)).length) c107), (i64 ((doubtsL X23 (idsS m)).length : Int)), (.slice A110 ((doubtsL Y24 (idsS (rotS n.toNat (idsS m)))).length) c111), (i64 ((doubtsL Y24 (idsS (rotS n.toNat (idsS m)))).length : Int)), (.bool (decide (((doubtsL X23 (idsS m)).length : Int) ≠ ((doubtsL Y24 (idsS (rotS n.toNat (idsS m)))).length : Int)))), (i64 (k114 : Int)), (.slice A106 ((doubtsL X23 (idsS m)).length) c107), (i64 ((doubtsL X23 (idsS m)).length : Int)), (.bool (decide ((k114 : Int) < ((doubtsL X23 (idsS m)).length : Int)))), (z_k114 114), (z_k114 115), (.slice A106 ((doubtsL X23 (idsS m)).length) c107), (i64 (k114 : Int)), (ptr g108 (o118 + k114 * 3)), (N3.val x121), (z_k114 120), (z_k114 121), (z_k114 122), (z_k114 123), (z_k114 124), (z_k114 125), (z_k114 126), (z_k114 127), (z_k114 128), (z_k114 129), (z_k114 130), (z_k114 131), (z_k114 132), (z_k114 133), (z_k114 134), (z_k114 135), (z_k114 136), (z_k114 137), (z_k114 138), (z_k114 139), (z_k114 140), (z_k114 141), (z_k114 142), undef])) (by kernel_rfl) ?_
            refine c_rs ?_
            have hz_ := hN.2 x121 (List.mem_of_getElem? hx122)
            have hzr := rot_lt (n := n.toNat) (i := x121.of.toNat) (by omega)
            refine s1 (v := (ptr b123 0)) (rn_fa fa28_0 rfl rfl) ?_
            refine s1 (v := (i64 x121.of)) (rn_lb1 o3 rfl hb123 rfl) ?_
            refine s1 (v := (i64 (x121.of + 1))) (rn_add (m := x121.of) (n := 1) rfl rfl (wr64 (by omega) (by omega))) ?_
            refine s1 (v := (i64 n)) (rn_mv rfl) ?_
            refine s1 (v := (i64 ((rot n.toNat x121.of.toNat : Nat) : Int))) (rn_rem (m := x121.of + 1) (n := n) rfl rfl (by omega) (tmod_rot (by omega) (by omega))) ?_
            refine s1 (v := (ptr b123 0)) (rn_fa fa28_0 rfl rfl) ?_
            refine s_st (v := (i64 ((rot n.toNat x121.of.toNat : Nat) : Int))) (vs := [(i64 ((rot n.toNat x121.of.toNat : Nat) : Int))]) (cs' := (N3.cells (N3.mk ((rot n.toNat x121.of.toNat : Nat) : Int) x121.tag x121.kind))) o3.2 rfl rfl rfl rfl hb123 (by simp) rfl rfl (fun w128 h_ x129 => ?_)
            replace hE := hE.step1 x129 (by first | (left; simp; done) | (right; omega))
            replace hb1 := hb1.ext1 x129 (by omega)
            replace hb19 := hb19.ext1 x129 (by omega)
            replace el120 := el120.ext1 x129 (by omega)
            replace hl := hl.ext1 x129 (by omega)
            replace hB7 := hB7.ext1 x129 (by omega)
            replace hB17 := hB17.ext1 x129 (by omega)
            replace hl56 := hl56.ext1 x129 (by omega)
            replace hl109 := hl109.ext1 x129 (by omega)
            replace hl113 := hl113.ext1 x129 (by omega)
            clear x129
            replace hb123 := h_; clear h_
            refine w_end ?_
            refine c_rs ?_
            refine s1 (v := (.bool false)) (rn_as rfl) ?_
            refine w_end ?_
            refine c_seq ?_
            refine c_rs ?_
            refine s1 (v := (i64 0)) (rn_as rfl) ?_
            refine w_end ?_
            refine c_block ?_
            replace hb123 : Blk w128 b123 28 (N3.cells (rotN n.toNat x121)) := hb123
            refine c_loop (fun d a w => ∃ (k130 : Nat) (fb131 : Bool) (z_k130 : Nat → Value) , a = Fr 144 (lk [(i64 n), (.slice A l.length c), (S4.val m), undef, undef, (ptr b1 0), (z_k114 6), (ptr p4 0), (i64 0), (ptr p14 0), (i64 0), (ptr b19 0), (i64 (k22 : Int)), (z_k22 13), (.slice A53 (((idsI m)).length) c54), (i64 (k59 : Int)), (.slice A106 ((doubtsL X23 (idsS m)).length) c107), (.slice A110 ((doubtsL Y24 (idsS (rotS n.toNat (idsS m)))).length) c111), (i64 (k114 : Int)), (ptr b123 0), (.bool fb131), (i64 (k130 : Int)), (.tuple #[(ptr p4 0), (i64 0)]), (i64 n), (.tuple #[(ptr p4 0), (i64 0)]), (ptr p4 0), (i64 0), (i64 0), (.bool false), (.bool false), (.slice A l.length c), (i64 (l.length : Int)), (.bool (decide (300 < (l.length : Int)))), (.bool (decide (300 < (l.length : Int)))), undef, (.tuple #[(ptr p14 0), (i64 0)]), (i64 n), (i64 n), (i64 (sv : Int)), (.tuple #[(ptr p14 0), (i64 0)]), (ptr p14 0), (i64 0), (i64 (k22 : Int)), (.slice A l.length c), (i64 (l.length : Int)), (.bool (decide ((k22 : Int) < (l.length : Int)))), (z_k22 46), (z_k22 47), (z_k22 48), (z_k22 49), (z_k22 50), (z_k22 51), (z_k22 52), (z_k22 53), (z_k22 54), (z_k22 55), (z_k22 56), (z_k22 57), (z_k22 58), (z_k22 59), (z_k22 60), (z_k22 61), (z_k22 62), (z_k22 63), (z_k22 64), (z_k22 65), (z_k22 66), (z_k22 67), (z_k22 68), (z_k22 69), (z_k22 70), (z_k22 71), (z_k22 72), (S4.val m), (.slice A53 (((idsI m)).length) c54), (i64 (k59 : Int)), (.slice A53 (((idsI m)).length) c54), (i64 (((idsI m)).length : Int)), (.bool (decide ((k59 : Int) < (((idsI m)).length : Int)))), (z_k59 79), (z_k59 80), (z_k59 81), (z_k59 82), (z_k59 83), (z_k59 84), (z_k59 85), (z_k59 86), (z_k59 87), (z_k59 88), (z_k59 89), (z_k59 90), (z_k59 91), (z_k59 92), (z_k59 93), (z_k59 94), (z_k59 95), (z_k59 96), (z_k59 97), (z_k59 98), (ptr p4 0), (S4.val m), (.slice A106 ((doubtsL X23 (idsS m)).length) c107), (ptr p14 0), (S4.val (rotS n.toNat (idsS m))), (.slice A110 ((doubtsL Y24 (idsS (rotS n.toNat (idsS m)))).length) c111), (.slice A106 ((doubtsL X23 (idsS m)).length) c107), (i64 ((doubtsL X23 (idsS m)).length : Int)), (.slice A110 ((doubtsL Y24 (idsS (rotS n.toNat (idsS m)))).length) c111), (i64 ((doubtsL Y24 (idsS (rotS n.toNat (idsS m)))).length : Int)), (.bool (decide (((doubtsL X23 (idsS m)).length : Int) ≠ ((doubtsL Y24 (idsS (rotS n.toNat (idsS m)))).length : Int)))), (i64 (k114 : Int)), (.slice A106 ((doubtsL X23 (idsS m)).length) c107), (i64 ((doubtsL X23 (idsS m)).length : Int)), (.bool (decide ((k114 : Int) < ((doubtsL X23 (idsS m)).length : Int)))), (z_k114 114), (z_k114 115), (.slice A106 ((doubtsL X23 (idsS m)).length) c107), (i64 (k114 : Int)), (ptr g108 (o118 + k114 * 3)), (N3.val x121), (ptr b123 0), (i64 x121.of), (i64 (x121.of + 1)), (i64 n), (i64 ((rot n.toNat x121.of.toNat : Nat) : Int)), (ptr b123 0), (z_k130 126), (z_k130 127), (z_k130 128), (z_k130 129), (z_k130 130), (z_k130 131), (z_k130 132), (z_k130 133), (z_k130 134), (z_k130 135), (z_k130 136), (z_k130 137), (z_k130 138), (z_k130 139), (z_k130 140), (z_k114 141), (z_k114 142), undef]) [] ∧ d = ((doubtsL Y24 (idsS (rotS n.toNat (idsS m)))).length) - k130 ∧ k130 ≤ (doubtsL Y24 (idsS (rotS n.toNat (idsS m)))).length ∧ Ext [] w0 w ∧ Blk w b1 34 (S4.cells m) ∧ Blk w b19 34 (S4.cells (rotS n.toNat (idsS m))) ∧ Blk w b123 28 (N3.cells (rotN n.toNat x121)) ∧ Ls N3.cells 3 w gl A l ∧ Bk w p4 bb5 X23 ∧ Bk w p14 bb15 Y24 ∧ Ls I1.cells 1 w g55 A53 (idsI m) ∧ Ls N3.cells 3 w g108 A106 (doubtsL X23 (idsS m)) ∧ Ls N3.cells 3 w g112 A110 (doubtsL Y24 (idsS (rotS n.toNat (idsS m)))) ∧ (fb131 = decide ((rotN n.toNat x121) ∈ (doubtsL Y24 (idsS (rotS n.toNat (idsS m)))).take k130))) (((doubtsL Y24 (idsS (rotS n.toNat (idsS m)))).length) - 0) ?_ ?_
            · exact ⟨0, false, (lk [(i64 n), (.slice A l.length c), (S4.val m), undef, undef, (ptr b1 0), (z_k114 6), (ptr p4 0), (i64 0), (ptr p14 0), (i64 0), (ptr b19 0), (i64 (k22 : Int)), (z_k22 13), (.slice A53 (((idsI m)).length) c54), (i64 (k59 : Int)), (.slice A106 ((doubtsL X23 (idsS m)).length) c107), (.slice A110 ((doubtsL Y24 (idsS (rotS n.toNat (idsS m)))).length) c111), (i64 (k114 : Int)), (ptr b123 0), (.bool false), (i64 0), (.tuple #[(ptr p4 0), (i64 0)]), (i64 n), (.tuple #[(ptr p4 0), (i64 0)]), (ptr p4 0), (i64 0), (i64 0), (.bool false), (.bool false), (.slice A l.length c), (i64 (l.length : Int)), (.bool (decide (300 < (l.length : Int)))), (.bool (decide (300 < (l.length : Int)))), undef, (.tuple #[(ptr p14 0), (i64 0)]), (i64 n), (i64 n), (i64 (sv : Int)), (.tuple #[(ptr p14 0), (i64 0)]), (ptr p14 0), (i64 0), (i64 (k22 : Int)), (.slice A l.length c), (i64 (l.length : Int)), (.bool (decide ((k22 : Int) < (l.length : Int)))), (z_k22 46), (z_k22 47), (z_k22 48), (z_k22 49), (z_k22 50), (z_k22 51), (z_k22 52), (z_k22 53), (z_k22 54), (z_k22 55), (z_k22 56), (z_k22 57), (z_k22 58), (z_k22 59), (z_k22 60), (z_k22 61), (z_k22 62), (z_k22 63), (z_k22 64), (z_k22 65), (z_k22 66), (z_k22 67), (z_k22 68), (z_k22 69), (z_k22 70), (z_k22 71), (z_k22 72), (S4.val m), (.slice A53 (((idsI m)).length) c54), (i64 (k59 : Int)), (.slice A53 (((idsI m)).length) c54), (i64 (((idsI m)).length : Int)), (.bool (decide ((k59 : Int) < (((idsI m)).length : Int)))), (z_k59 79), (z_k59 80), (z_k59 81), (z_k59 82), (z_k59 83), (z_k59 84), (z_k59 85), (z_k59 86), (z_k59 87), (z_k59 88), (z_k59 89), (z_k59 90), (z_k59 91), (z_k59 92), (z_k59 93), (z_k59 94), (z_k59 95), (z_k59 96), (z_k59 97), (z_k59 98), (ptr p4 0), (S4.val m), (.slice A106 ((doubtsL X23 (idsS m)).length) c107), (ptr p14 0), (S4.val (rotS n.toNat (idsS m))), (.slice A110 ((doubtsL Y24 (idsS (rotS n.toNat (idsS m)))).length) c111), (.slice A106 ((doubtsL X23 (idsS m)).length) c107), (i64 ((doubtsL X23 (idsS m)).length : Int)), (.slice A110 ((doubtsL Y24 (idsS (rotS n.toNat (idsS m)))).length) c111), (i64 ((doubtsL Y24 (idsS (rotS n.toNat (idsS m)))).length : Int)), (.bool (decide (((doubtsL X23 (idsS m)).length : Int) ≠ ((doubtsL Y24 (idsS (rotS n.toNat (idsS m)))).length : Int)))), (i64 (k114 : Int)), (.slice A106 ((doubtsL X23 (idsS m)).length) c107), (i64 ((doubtsL X23 (idsS m)).length : Int)), (.bool (decide ((k114 : Int) < ((doubtsL X23 (idsS m)).length : Int)))), (z_k114 114), (z_k114 115), (.slice A106 ((doubtsL X23 (idsS m)).length) c107), (i64 (k114 : Int)), (ptr g108 (o118 + k114 * 3)), (N3.val x121), (ptr b123 0), (i64 x121.of), (i64 (x121.of + 1)), (i64 n), (i64 ((rot n.toNat x121.of.toNat : Nat) : Int)), (ptr b123 0), (z_k114 126), (z_k114 127), (z_k114 128), (z_k114 129), (z_k114 130), (z_k114 131), (z_k114 132), (z_k114 133), (z_k114 134), (z_k114 135), (z_k114 136), (z_k114 137), (z_k114 138), (z_k114 139), (z_k114 140), (z_k114 141), (z_k114 142), undef]), Fr_congr (by kernel_rfl), rfl, Nat.zero_le _, hE, hb1, hb19, hb123, hl, hB7, hB17, hl56, hl109, hl113, (by symm; rw [decide_eq_false_iff_not]; simp)⟩
            clear hE
            clear hb1
            clear hb19
            clear hb123
            clear hl
            clear hB7
            clear hB17
            clear hl56
            clear hl109
            clear hl113
            rintro d a w132 ⟨k130, fb131, z_k130, rfl, rfl, hlek130, hE, hb1, hb19, hb123, hl, hB7, hB17, hl56, hl109, hl113, hfb⟩
            refine c_seq ?_
            refine c_rs ?_
            refine s1 (v := (i64 (k130 : Int))) (rn_mv rfl) ?_
            refine s1 (v := (.slice A110 ((doubtsL Y24 (idsS (rotS n.toNat (idsS m)))).length) c111)) (rn_mv rfl) ?_
            refine s1 (v := (i64 ((doubtsL Y24 (idsS (rotS n.toNat (idsS m)))).length : Int))) (rn_len is22 rfl) ?_
            refine s1 (v := (.bool (decide ((k130 : Int) < ((doubtsL Y24 (idsS (rotS n.toNat (idsS m)))).length : Int))))) (rn_lss (m := (k130 : Int)) (n := ((doubtsL Y24 (idsS (rotS n.toNat (idsS m)))).length : Int)) rfl rfl) ?_
            refine w_end ?_
            refine c_if (b := (decide ((k130 : Int) < ((doubtsL Y24 (idsS (rotS n.toNat (idsS m)))).length : Int)))) rfl (fun h133 => ?_) (fun h133 => ?_)
            ·
              have p134 := of_decide_eq_true h133
              refine c_skip' ?_
              refine t_norm ?_
              refine c_seq ?_
              refine c_block ?_
              rcases Bool.eq_false_or_eq_true fb131 with h135 | h135
              ·
                refine c_dr (n := 10) [.c (.bool fb131), .c (.bool fb131), .n, .n, .n, .n, .n, .n, .c (.bool true), .c (.bool true)] rfl mixed (by kernel_rfl) ?_
                refine q_v (v := (.bool fb131)) (fun W hC => rn_mv rfl) ?_
                refine q_v (v := (.bool fb131)) (fun W hC => rn_mv rfl) ?_
                refine ob_not rfl rfl rfl h135 ?_
                refine ob_not rfl rfl rfl h135 ?_
                refine ob_not rfl rfl rfl h135 ?_
                refine ob_not rfl rfl rfl h135 ?_
                refine ob_not rfl rfl rfl h135 ?_
                refine ob_not rfl rfl rfl h135 ?_
                refine q_v (v := (.bool true)) (fun W hC => rn_pT (b := fb131) rfl h135 rfl) ?_
                refine q_v (v := (.bool true)) (fun W hC => rn_as rfl) ?_
                refine ob_end (fun w136 x137 he138 hap139 => ?_)
                replace hE := hE.step0 x137
                replace hb1 := hb1.ext0 x137
                replace hb19 := hb19.ext0 x137
                replace hb123 := hb123.ext0 x137
                replace hl := hl.ext0 x137
                replace hB7 := hB7.ext0 x137
                replace hB17 := hB17.ext0 x137
                replace hl56 := hl56.ext0 x137
                replace hl109 := hl109.ext0 x137
                replace hl113 := hl113.ext0 x137
                clear x137
                refine w_nil ?_
                refine b_norm ?_
                refine t_norm ?_
                refine c_r ?_
                refine s1 (v := (i64 (k130 : Int))) (rn_mv rfl) ?_
                refine s1 (v := (i64 ((k130 : Int) + 1))) (rn_add (m := (k130 : Int)) (n := 1) rfl rfl (wr64 (by omega) (by omega))) ?_
                refine s1 (v := (i64 ((k130 : Int) + 1))) (rn_as rfl) ?_
                refine w_nil ?_
                refine t_norm ?_
                exact ⟨((doubtsL Y24 (idsS (rotS n.toNat (idsS m)))).length) - (k130 + 1), by omega, k130 + 1, true, (lk [(i64 n), (.slice A l.length c), (S4.val m), undef, undef, (ptr b1 0), (z_k114 6), (ptr p4 0), (i64 0), (ptr p14 0), (i64 0), (ptr b19 0), (i64 (k22 : Int)), (z_k22 13), (.slice A53 (((idsI m)).length) c54), (i64 (k59 : Int)), (.slice A106 ((doubtsL X23 (idsS m)).length) c107), (.slice A110 ((doubtsL Y24 (idsS (rotS n.toNat (idsS m)))).length) c111), (i64 (k114 : Int)), (ptr b123 0), (.bool true), (i64 ((k130 : Int) + 1)), (.tuple #[(ptr p4 0), (i64 0)]), (i64 n), (.tuple #[(ptr p4 0), (i64 0)]), (ptr p4 0), (i64 0), (i64 0), (.bool false), (.bool false), (.slice A l.length c), (i64 (l.length : Int)), (.bool (decide (300 < (l.length : Int)))), (.bool (decide (300 < (l.length : Int)))), undef, (.tuple #[(ptr p14 0), (i64 0)]), (i64 n), (i64 n), (i64 (sv : Int)), (.tuple #[(ptr p14 0), (i64 0)]), (ptr p14 0), (i64 0), (i64 (k22 : Int)), (.slice A l.length c), (i64 (l.length : Int)), (.bool (decide ((k22 : Int) < (l.length : Int)))), (z_k22 46), (z_k22 47), (z_k22 48), (z_k22 49), (z_k22 50), (z_k22 51), (z_k22 52), (z_k22 53), (z_k22 54), (z_k22 55), (z_k22 56), (z_k22 57), (z_k22 58), (z_k22 59), (z_k22 60), (z_k22 61), (z_k22 62), (z_k22 63), (z_k22 64), (z_k22 65), (z_k22 66), (z_k22 67), (z_k22 68), (z_k22 69), (z_k22 70), (z_k22 71), (z_k22 72), (S4.val m), (.slice A53 (((idsI m)).length) c54), (i64 (k59 : Int)), (.slice A53 (((idsI m)).length) c54), (i64 (((idsI m)).length : Int)), (.bool (decide ((k59 : Int) < (((idsI m)).length : Int)))), (z_k59 79), (z_k59 80), (z_k59 81), (z_k59 82), (z_k59 83), (z_k59 84), (z_k59 85), (z_k59 86), (z_k59 87), (z_k59 88), (z_k59 89), (z_k59 90), (z_k59 91), (z_k59 92), (z_k59 93), (z_k59 94), (z_k59 95), (z_k59 96), (z_k59 97), (z_k59 98), (ptr p4 0), (S4.val m), (.slice A106 ((doubtsL X23 (idsS m)).length) c107), (ptr p14 0), (S4.val (rotS n.toNat (idsS m))), (.slice A110 ((doubtsL Y24 (idsS (rotS n.toNat (idsS m)))).length) c111), (.slice A106 ((doubtsL X23 (idsS m)).length) c107), (i64 ((doubtsL X23 (idsS m)).length : Int)), (.slice A110 ((doubtsL Y24 (idsS (rotS n.toNat (idsS m)))).length) c111), (i64 ((doubtsL Y24 (idsS (rotS n.toNat (idsS m)))).length : Int)), (.bool (decide (((doubtsL X23 (idsS m)).length : Int) ≠ ((doubtsL Y24 (idsS (rotS n.toNat (idsS m)))).length : Int)))), (i64 (k114 : Int)), (.slice A106 ((doubtsL X23 (idsS m)).length) c107), (i64 ((doubtsL X23 (idsS m)).length : Int)), (.bool (decide ((k114 : Int) < ((doubtsL X23 (idsS m)).length : Int)))), (z_k114 114), (z_k114 115), (.slice A106 ((doubtsL X23 (idsS m)).length) c107), (i64 (k114 : Int)), (ptr g108 (o118 + k114 * 3)), (N3.val x121), (ptr b123 0), (i64 x121.of), (i64 (x121.of + 1)), (i64 n), (i64 ((rot n.toNat x121.of.toNat : Nat) : Int)), (ptr b123 0), (i64 (k130 : Int)), (.slice A110 ((doubtsL Y24 (idsS (rotS n.toNat (idsS m)))).length) c111), (i64 ((doubtsL Y24 (idsS (rotS n.toNat (idsS m)))).length : Int)), (.bool (decide ((k130 : Int) < ((doubtsL Y24 (idsS (rotS n.toNat (idsS m)))).length : Int)))), (i64 (k130 : Int)), (i64 ((k130 : Int) + 1)), (.bool fb131), (.bool fb131), undef, undef, undef, undef, undef, undef, (.bool true), (z_k114 141), (z_k114 142), undef]), Fr_congr (by kernel_rfl), rfl, by omega, hE, hb1, hb19, hb123, hl, hB7, hB17, hl56, hl109, hl113, (by symm; rw [decide_eq_true_eq]; have h_ := hfb; rw [h135] at h_; have h2_ := of_decide_eq_true h_.symm; rw [List.take_add_one]; exact List.mem_append_left _ h2_)⟩
              ·
                obtain ⟨x143, o140, hx144, hA141, el142⟩ := hl113.el (k := k130) (by omega)
                refine c_dr (n := 10) [.c (.bool fb131), .c (.bool fb131), .c (.slice A110 ((doubtsL Y24 (idsS (rotS n.toNat (idsS m)))).length) c111), .c (i64 (k130 : Int)), .c (ptr g112 (o140 + k130 * 3)), .c (N3.val x143), .c (N3.val (rotN n.toNat x121)), .c (.bool (decide (x143 = (rotN n.toNat x121)))), .c (.bool (decide (x143 = (rotN n.toNat x121)))), .c (.bool (decide (x143 = (rotN n.toNat x121))))] rfl mixed (by kernel_rfl) ?_
                refine q_v (v := (.bool fb131)) (fun W hC => rn_mv rfl) ?_
                refine q_v (v := (.bool fb131)) (fun W hC => rn_mv rfl) ?_
                refine ob_yes rfl rfl rfl h135 ?_
                refine q_v (v := (.slice A110 ((doubtsL Y24 (idsS (rotS n.toNat (idsS m)))).length) c111)) (fun W hC => rn_mv rfl) ?_
                refine ob_yes rfl rfl rfl h135 ?_
                refine q_v (v := (i64 (k130 : Int))) (fun W hC => rn_mv rfl) ?_
                refine ob_yes rfl rfl rfl h135 ?_
                refine q_v (v := (ptr g112 (o140 + k130 * 3))) (fun W hC => rn_ie is22 rfl hA141 rfl (by omega) (by omega) rfl) ?_
                refine ob_yes rfl rfl rfl h135 ?_
                refine q_v (v := (N3.val x143)) (fun W hC => rn_ldN (vs := (N3.cells x143)) g28 rfl rfl (el142.ext0 hC)) ?_
                refine ob_yes rfl rfl rfl h135 ?_
                refine q_v (v := (N3.val (rotN n.toNat x121))) (fun W hC => rn_lbN (vs := (N3.cells (rotN n.toNat x121))) g28 rfl (hb123.ext0 hC) rfl rfl) ?_
                refine ob_yes rfl rfl rfl h135 ?_
                refine q_v (v := (.bool (decide (x143 = (rotN n.toNat x121))))) (fun W hC => eq28 (a := x143) (b := (rotN n.toNat x121)) rfl rfl) ?_
                refine q_v (v := (.bool (decide (x143 = (rotN n.toNat x121))))) (fun W hC => rn_pF (b := fb131) rfl h135 rfl) ?_
                refine q_v (v := (.bool (decide (x143 = (rotN n.toNat x121))))) (fun W hC => rn_as rfl) ?_
                refine ob_end (fun w145 x146 he147 hap148 => ?_)
                replace hE := hE.step0 x146
                replace hb1 := hb1.ext0 x146
                replace hb19 := hb19.ext0 x146
                replace hb123 := hb123.ext0 x146
                replace el142 := el142.ext0 x146
                replace hl := hl.ext0 x146
                replace hB7 := hB7.ext0 x146
                replace hB17 := hB17.ext0 x146
                replace hl56 := hl56.ext0 x146
                replace hl109 := hl109.ext0 x146
                replace hl113 := hl113.ext0 x146
                clear x146
                refine w_nil ?_
                refine b_norm ?_
                refine t_norm ?_
                refine c_r ?_
                refine s1 (v := (i64 (k130 : Int))) (rn_mv rfl) ?_
                refine s1 (v := (i64 ((k130 : Int) + 1))) (rn_add (m := (k130 : Int)) (n := 1) rfl rfl (wr64 (by omega) (by omega))) ?_
                refine s1 (v := (i64 ((k130 : Int) + 1))) (rn_as rfl) ?_
                refine w_nil ?_
                refine t_norm ?_
                exact ⟨((doubtsL Y24 (idsS (rotS n.toNat (idsS m)))).length) - (k130 + 1), by omega, k130 + 1, decide (x143 = (rotN n.toNat x121)), (lk [(i64 n), (.slice A l.length c), (S4.val m), undef, undef, (ptr b1 0), (z_k114 6), (ptr p4 0), (i64 0), (ptr p14 0), (i64 0), (ptr b19 0), (i64 (k22 : Int)), (z_k22 13), (.slice A53 (((idsI m)).length) c54), (i64 (k59 : Int)), (.slice A106 ((doubtsL X23 (idsS m)).length) c107), (.slice A110 ((doubtsL Y24 (idsS (rotS n.toNat (idsS m)))).length) c111), (i64 (k114 : Int)), (ptr b123 0), (.bool (decide (x143 = (rotN n.toNat x121)))), (i64 ((k130 : Int) + 1)), (.tuple #[(ptr p4 0), (i64 0)]), (i64 n), (.tuple #[(ptr p4 0), (i64 0)]), (ptr p4 0), (i64 0), (i64 0), (.bool false), (.bool false), (.slice A l.length c), (i64 (l.length : Int)), (.bool (decide (300 < (l.length : Int)))), (.bool (decide (300 < (l.length : Int)))), undef, (.tuple #[(ptr p14 0), (i64 0)]), (i64 n), (i64 n), (i64 (sv : Int)), (.tuple #[(ptr p14 0), (i64 0)]), (ptr p14 0), (i64 0), (i64 (k22 : Int)), (.slice A l.length c), (i64 (l.length : Int)), (.bool (decide ((k22 : Int) < (l.length : Int)))), (z_k22 46), (z_k22 47), (z_k22 48), (z_k22 49), (z_k22 50), (z_k22 51), (z_k22 52), (z_k22 53), (z_k22 54), (z_k22 55), (z_k22 56), (z_k22 57), (z_k22 58), (z_k22 59), (z_k22 60), (z_k22 61), (z_k22 62), (z_k22 63), (z_k22 64), (z_k22 65), (z_k22 66), (z_k22 67), (z_k22 68), (z_k22 69), (z_k22 70), (z_k22 71), (z_k22 72), (S4.val m), (.slice A53 (((idsI m)).length) c54), (i64 (k59 : Int)), (.slice A53 (((idsI m)).length) c54), (i64 (((idsI m)).length : Int)), (.bool (decide ((k59 : Int) < (((idsI m)).length : Int)))), (z_k59 79), (z_k59 80), (z_k59 81), (z_k59 82), (z_k59 83), (z_k59 84), (z_k59 85), (z_k59 86), (z_k59 87), (z_k59 88), (z_k59 89), (z_k59 90), (z_k59 91), (z_k59 92), (z_k59 93), (z_k59 94), (z_k59 95), (z_k59 96), (z_k59 97), (z_k59 98), (ptr p4 0), (S4.val m), (.slice A106 ((doubtsL X23 (idsS m)).length) c107), (ptr p14 0), (S4.val (rotS n.toNat (idsS m))), (.slice A110 ((doubtsL Y24 (idsS (rotS n.toNat (idsS m)))).length) c111), (.slice A106 ((doubtsL X23 (idsS m)).length) c107), (i64 ((doubtsL X23 (idsS m)).length : Int)), (.slice A110 ((doubtsL Y24 (idsS (rotS n.toNat (idsS m)))).length) c111), (i64 ((doubtsL Y24 (idsS (rotS n.toNat (idsS m)))).length : Int)), (.bool (decide (((doubtsL X23 (idsS m)).length : Int) ≠ ((doubtsL Y24 (idsS (rotS n.toNat (idsS m)))).length : Int)))), (i64 (k114 : Int)), (.slice A106 ((doubtsL X23 (idsS m)).length) c107), (i64 ((doubtsL X23 (idsS m)).length : Int)), (.bool (decide ((k114 : Int) < ((doubtsL X23 (idsS m)).length : Int)))), (z_k114 114), (z_k114 115), (.slice A106 ((doubtsL X23 (idsS m)).length) c107), (i64 (k114 : Int)), (ptr g108 (o118 + k114 * 3)), (N3.val x121), (ptr b123 0), (i64 x121.of), (i64 (x121.of + 1)), (i64 n), (i64 ((rot n.toNat x121.of.toNat : Nat) : Int)), (ptr b123 0), (i64 (k130 : Int)), (.slice A110 ((doubtsL Y24 (idsS (rotS n.toNat (idsS m)))).length) c111), (i64 ((doubtsL Y24 (idsS (rotS n.toNat (idsS m)))).length : Int)), (.bool (decide ((k130 : Int) < ((doubtsL Y24 (idsS (rotS n.toNat (idsS m)))).length : Int)))), (i64 (k130 : Int)), (i64 ((k130 : Int) + 1)), (.bool fb131), (.bool fb131), (.slice A110 ((doubtsL Y24 (idsS (rotS n.toNat (idsS m)))).length) c111), (i64 (k130 : Int)), (ptr g112 (o140 + k130 * 3)), (N3.val x143), (N3.val (rotN n.toNat x121)), (.bool (decide (x143 = (rotN n.toNat x121)))), (.bool (decide (x143 = (rotN n.toNat x121)))), (z_k114 141), (z_k114 142), undef]), Fr_congr (by kernel_rfl), rfl, by omega, hE, hb1, hb19, hb123, hl, hB7, hB17, hl56, hl109, hl113, (by have h_ := hfb; rw [h135] at h_; have h2_ := of_decide_eq_false h_.symm; rw [take_snoc hx144, Bool.eq_iff_iff, decide_eq_true_eq, decide_eq_true_eq, List.mem_append, List.mem_singleton]; exact ⟨fun e_ => .inr e_.symm, fun e_ => (e_.resolve_left h2_).symm⟩)⟩
            ·
              have p149 := of_decide_eq_false h133
              refine c_exit ?_
              refine t_exit ?_
              refine t_exit ?_
              refine b_here ?_
              refine t_norm ?_
              refine c_rs ?_
              have hfbt : fb131 = true := by rw [hfb, show k130 = (doubtsL Y24 (idsS (rotS n.toNat (idsS m)))).length by omega, List.take_length]; exact decide_eq_true hz_.1
              refine s1 (v := (.bool fb131)) (rn_mv rfl) ?_
              refine s1 (v := (.bool (!fb131))) (rn_not (b := fb131) rfl) ?_
              refine w_end ?_
              refine c_F (b := (!fb131)) rfl (by rw [hfbt]; rfl) ?_
              refine c_skip' ?_
              refine b_norm ?_
              refine t_norm ?_
              refine c_r ?_
              refine s1 (v := (i64 (k114 : Int))) (rn_mv rfl) ?_
              refine s1 (v := (i64 ((k114 : Int) + 1))) (rn_add (m := (k114 : Int)) (n := 1) rfl rfl (wr64 (by omega) (by omega))) ?_
              refine s1 (v := (i64 ((k114 : Int) + 1))) (rn_as rfl) ?_
              refine w_nil ?_
              refine t_norm ?_
              exact ⟨((doubtsL X23 (idsS m)).length) - (k114 + 1), by omega, k114 + 1, (lk [(i64 n), (.slice A l.length c), (S4.val m), undef, undef, (ptr b1 0), (z_k114 6), (ptr p4 0), (i64 0), (ptr p14 0), (i64 0), (ptr b19 0), (i64 (k22 : Int)), (z_k22 13), (.slice A53 (((idsI m)).length) c54), (i64 (k59 : Int)), (.slice A106 ((doubtsL X23 (idsS m)).length) c107), (.slice A110 ((doubtsL Y24 (idsS (rotS n.toNat (idsS m)))).length) c111), (i64 ((k114 : Int) + 1)), (ptr b123 0), (.bool fb131), (i64 (k130 : Int)), (.tuple #[(ptr p4 0), (i64 0)]), (i64 n), (.tuple #[(ptr p4 0), (i64 0)]), (ptr p4 0), (i64 0), (i64 0), (.bool false), (.bool false), (.slice A l.length c), (i64 (l.length : Int)), (.bool (decide (300 < (l.length : Int)))), (.bool (decide (300 < (l.length : Int)))), undef, (.tuple #[(ptr p14 0), (i64 0)]), (i64 n), (i64 n), (i64 (sv : Int)), (.tuple #[(ptr p14 0), (i64 0)]), (ptr p14 0), (i64 0), (i64 (k22 : Int)), (.slice A l.length c), (i64 (l.length : Int)), (.bool (decide ((k22 : Int) < (l.length : Int)))), (z_k22 46), (z_k22 47), (z_k22 48), (z_k22 49), (z_k22 50), (z_k22 51), (z_k22 52), (z_k22 53), (z_k22 54), (z_k22 55), (z_k22 56), (z_k22 57), (z_k22 58), (z_k22 59), (z_k22 60), (z_k22 61), (z_k22 62), (z_k22 63), (z_k22 64), (z_k22 65), (z_k22 66), (z_k22 67), (z_k22 68), (z_k22 69), (z_k22 70), (z_k22 71), (z_k22 72), (S4.val m), (.slice A53 (((idsI m)).length) c54), (i64 (k59 : Int)), (.slice A53 (((idsI m)).length) c54), (i64 (((idsI m)).length : Int)), (.bool (decide ((k59 : Int) < (((idsI m)).length : Int)))), (z_k59 79), (z_k59 80), (z_k59 81), (z_k59 82), (z_k59 83), (z_k59 84), (z_k59 85), (z_k59 86), (z_k59 87), (z_k59 88), (z_k59 89), (z_k59 90), (z_k59 91), (z_k59 92), (z_k59 93), (z_k59 94), (z_k59 95), (z_k59 96), (z_k59 97), (z_k59 98), (ptr p4 0), (S4.val m), (.slice A106 ((doubtsL X23 (idsS m)).length) c107), (ptr p14 0), (S4.val (rotS n.toNat (idsS m))), (.slice A110 ((doubtsL Y24 (idsS (rotS n.toNat (idsS m)))).length) c111), (.slice A106 ((doubtsL X23 (idsS m)).length) c107), (i64 ((doubtsL X23 (idsS m)).length : Int)), (.slice A110 ((doubtsL Y24 (idsS (rotS n.toNat (idsS m)))).length) c111), (i64 ((doubtsL Y24 (idsS (rotS n.toNat (idsS m)))).length : Int)), (.bool (decide (((doubtsL X23 (idsS m)).length : Int) ≠ ((doubtsL Y24 (idsS (rotS n.toNat (idsS m)))).length : Int)))), (i64 (k114 : Int)), (.slice A106 ((doubtsL X23 (idsS m)).length) c107), (i64 ((doubtsL X23 (idsS m)).length : Int)), (.bool (decide ((k114 : Int) < ((doubtsL X23 (idsS m)).length : Int)))), (i64 (k114 : Int)), (i64 ((k114 : Int) + 1)), (.slice A106 ((doubtsL X23 (idsS m)).length) c107), (i64 (k114 : Int)), (ptr g108 (o118 + k114 * 3)), (N3.val x121), (ptr b123 0), (i64 x121.of), (i64 (x121.of + 1)), (i64 n), (i64 ((rot n.toNat x121.of.toNat : Nat) : Int)), (ptr b123 0), (i64 (k130 : Int)), (.slice A110 ((doubtsL Y24 (idsS (rotS n.toNat (idsS m)))).length) c111), (i64 ((doubtsL Y24 (idsS (rotS n.toNat (idsS m)))).length : Int)), (.bool (decide ((k130 : Int) < ((doubtsL Y24 (idsS (rotS n.toNat (idsS m)))).length : Int)))), (z_k130 130), (z_k130 131), (z_k130 132), (z_k130 133), (z_k130 134), (z_k130 135), (z_k130 136), (z_k130 137), (z_k130 138), (z_k130 139), (z_k130 140), (.bool fb131), (.bool (!fb131)), undef]), Fr_congr (by kernel_rfl), rfl, by omega, hE, hb1, hb19, hl, hB7, hB17, hl56, hl109, hl113⟩
          ·
            have p150 := of_decide_eq_false h116
            refine c_exit ?_
            refine t_exit ?_
            refine t_exit ?_
            refine b_here ?_
            refine t_norm ?_
            refine c_rs ?_
            refine s_callP e25 (v := (.bool true)) (vs := []) rfl (alive14_c) (fun w151 x152 => ?_)
            replace hE := hE.step0 x152
            replace hb1 := hb1.ext0 x152
            replace hb19 := hb19.ext0 x152
            replace hl := hl.ext0 x152
            replace hB7 := hB7.ext0 x152
            replace hB17 := hB17.ext0 x152
            replace hl56 := hl56.ext0 x152
            replace hl109 := hl109.ext0 x152
            replace hl113 := hl113.ext0 x152
            clear x152
            refine s1 (v := (.bool true)) (rn_as rfl) ?_
            refine w_end ?_
            refine c_ret ?_
            refine bp_ret (rs1 rfl (rv_tmp (v := (.bool true)) rfl)) ?_
            exact ⟨rfl, hE⟩
  ·
    refine s_callP e53 (v := (.tuple #[(.pointer none), (i64 (newE n 0 0))])) (vs := [(i64 n), (i64 0), (i64 0)]) rfl (NewBad_c n 0 0 hok) (fun w153 x154 => ?_)
    replace hE := hE.step0 x154
    replace hb1 := hb1.ext0 x154
    replace hl := hl.ext0 x154
    clear x154
    refine s1 (v := (.tuple #[(.pointer none), (i64 (newE n 0 0))])) (rn_mv rfl) ?_
    refine s1 (v := (.pointer none)) (rn_ex (vs := [(.pointer none), (i64 (newE n 0 0))]) rfl rfl) ?_
    refine s1 (v := (i64 (newE n 0 0))) (rn_ex (vs := [(.pointer none), (i64 (newE n 0 0))]) rfl rfl) ?_
    refine s1 (v := (.pointer none)) (rn_as rfl) ?_
    refine s1 (v := (i64 (newE n 0 0))) (rn_as rfl) ?_
    refine w_end ?_
    refine c_seq ?_
    refine c_rs ?_
    refine s1 (v := (i64 (newE n 0 0))) (rn_mv rfl) ?_
    refine s1 (v := (.bool (decide (newE n 0 0 ≠ 0)))) (rn_neq (m := newE n 0 0) (n := 0) rfl rfl) ?_
    refine s1 (v := (.bool (decide (newE n 0 0 ≠ 0)))) (rn_mv rfl) ?_
    refine g_not rfl rfl rfl (decide_eq_true (newE_ne _ _ _)) ?_
    refine g_not rfl rfl rfl (decide_eq_true (newE_ne _ _ _)) ?_
    refine g_not rfl rfl rfl (decide_eq_true (newE_ne _ _ _)) ?_
    refine s1 (v := (.bool true)) (rn_pT (b := (decide (newE n 0 0 ≠ 0))) rfl (decide_eq_true (newE_ne _ _ _)) rfl) ?_
    refine w_end ?_
    refine c_T (b := true) rfl rfl ?_
    refine c_rs ?_
    refine s_callP e25 (v := (.bool true)) (vs := []) rfl (alive14_c) (fun w155 x156 => ?_)
    replace hE := hE.step0 x156
    replace hb1 := hb1.ext0 x156
    replace hl := hl.ext0 x156
    clear x156
    refine s1 (v := (.bool true)) (rn_as rfl) ?_
    refine w_end ?_
    refine c_ret ?_
    refine t_ret ?_
    refine bp_ret (rs1 rfl (rv_tmp (v := (.bool true)) rfl)) ?_
    exact ⟨rfl, hE⟩

end Go.Proofs.Ytfdffeameoejfaa
