/- infer2: printed walks. -/
import Derived.Test.YtfdffeameoejfaaInfer
import Derived.Test.YtfdffeameoejfaaEbook
namespace Go.Proofs.Ytfdffeameoejfaa
open Go Go.RowKit
set_option linter.unusedVariables false
set_option linter.unusedSimpArgs false

theorem bd28_ {M : Nat} {l : Nat → Value} {w : World} {d : Option Tmp} {t : TypeId} {p : String} {af : Array Edge} {g : Option (Nat × Bool)}   :
    Rn Try.prog M l w d (.build 28 #[]) t p af g (.agg #[(i64 0), (i64 0), (i64 0)]) := by
  have hb : (Instr.build 28 #[]).run Try.prog w = .ok (.agg #[(i64 0), (i64 0), (i64 0)]) w := by kernel_rfl
  simp [Rn, execOp, hb]

def atE (xs : List N3) (i : Int) : Int := if 0 ≤ i ∧ i < xs.length then 0 else 30
def atN (xs : List N3) (i : Int) : N3 := if 0 ≤ i ∧ i < xs.length then xs[i.toNat]?.getD default else N3.mk 0 0 0
def argI (xs : List Nat) (k : Nat) : Value := i64 ((xs[k]?.getD 0 : Nat) : Int)
theorem argI_eq {xs : List Nat} {k x : Nat} (h : xs[k]? = some x) : argI xs k = i64 (x : Int) := by unfold argI; rw [h]; rfl
def doubtB (xs : List N3) (i : Nat) : Bool := decide (atE xs (i : Int) = 0) && decide ((atN xs (i : Int)).kind = 1)
def doubtsL (xs : List N3) (ids : List Nat) : List N3 := (ids.filter (doubtB xs)).map (fun (i : Nat) => N3.mk (atN xs (i : Int)).of (atN xs (i : Int)).tag 2)
theorem doubtsL_snoc (xs : List N3) (ids : List Nat) (i : Nat) : doubtsL xs (ids ++ [i]) = if doubtB xs i then doubtsL xs ids ++ [N3.mk (atN xs (i : Int)).of (atN xs (i : Int)).tag 2] else doubtsL xs ids := by
  unfold doubtsL; rw [List.filter_append, List.map_append]; by_cases h : doubtB xs i = true <;> simp [h]
theorem doubtsL_le (xs : List N3) (ids : List Nat) : (doubtsL xs ids).length ≤ ids.length := by unfold doubtsL; rw [List.length_map]; exact List.length_filter_le _ _
theorem idsS_lt {s : S4} {k x : Nat} (h : (idsS s)[k]? = some x) : x < 100 ∧ s.has x = true := by
  have h1 := List.mem_of_getElem? h; unfold idsS at h1; rw [List.mem_filter, List.mem_range] at h1; exact h1
theorem idsS_le (s : S4) : (idsS s).length ≤ 100 := by unfold idsS; refine Nat.le_trans (List.length_filter_le _ _) ?_; simp
def idsI (s : S4) : List Int := (idsS s).map (fun (i : Nat) => (i : Int))
def suspS (xs : List N3) : S4 := xs.foldl (fun s x => if x.kind = 2 then withS s x.of.toNat else s) (S4.mk 0 0 0 0)

theorem AtG_c {p b : Nat} {xs : List N3} {w0 : World} (hB : Bk w0 p b xs) (i : Int) :
    Calls Try.prog 22 [(ptr p 0), (i64 i)].toArray w0 (Ret (Pu (.tuple #[N3.val (atN xs i), i64 (atE xs i)]) w0)) := by
  have hE : Ext [] w0 w0 := (Ext.refl w0).more (by simp)
  have hnep := hB.ne
  obtain ⟨cp, restp, hpp, hrp⟩ := hB
  have hltp := hpp.lt
  have hlbp := hrp.lt
  have hlsp : Ls N3.cells 3 w0 b (some ⟨b, 0, none⟩) xs := Ls.of_blk (fun _ => rfl) hrp
  refine enter (vs := [(ptr p 0), (i64 i)]) Try.func22 rfl Try.ntmps22 rfl ?_
  refine c_rs ?_
  refine s_alloc (cs := [(i64 0), (i64 0), (i64 0)]) z28 rfl (fun b1 w2 hb1 gb1 x3 => ?_)
  have nb1_hE : w0.heap.size ≤ b1 := Nat.le_trans hE.size gb1
  clear gb1
  replace hE := hE.step0 x3
  replace hpp := hpp.ext0 x3
  replace hrp := hrp.ext0 x3
  replace hlsp := hlsp.ext0 x3
  clear x3
  refine s1 (v := (i64 0)) (rn_as rfl) ?_
  refine w_end ?_
  refine c_seq ?_
  refine c_rs ?_
  refine s1 (v := (i64 i)) (rn_mv rfl) ?_
  refine s1 (v := (.bool (decide (i < 0)))) (rn_lss (m := i) (n := 0) rfl rfl) ?_
  refine s1 (v := (.bool (decide (i < 0)))) (rn_mv rfl) ?_
  rcases Bool.eq_false_or_eq_true (decide (i < 0)) with h4 | h4
  ·
    have p5 := of_decide_eq_true h4
    refine g_not rfl rfl rfl h4 ?_
    refine g_not rfl rfl rfl h4 ?_
    refine g_not rfl rfl rfl h4 ?_
    refine g_not rfl rfl rfl h4 ?_
    refine s1 (v := (.bool true)) (rn_pT (b := (decide (i < 0))) rfl h4 rfl) ?_
    refine w_end ?_
    refine c_T (b := true) rfl rfl ?_
    refine c_rs ?_
    refine s1 (v := (N3.val (N3.mk 0 0 0))) (bd28_ ) ?_
    refine s_st (v := (N3.val (N3.mk 0 0 0))) (vs := (N3.cells (N3.mk 0 0 0))) (cs' := (N3.cells (N3.mk 0 0 0))) g28.2 rfl rfl rfl rfl hb1 (by simp) rfl rfl (fun w6 h_ x7 => ?_)
    replace hE := hE.step1 x7 (by first | (left; simp; done) | (right; omega))
    replace hpp := hpp.ext1 x7 (by omega)
    replace hrp := hrp.ext1 x7 (by omega)
    replace hlsp := hlsp.ext1 x7 (by omega)
    clear x7
    replace hb1 := h_; clear h_
    refine s1 (v := (i64 30)) (rn_as rfl) ?_
    refine w_end ?_
    refine c_ret ?_
    refine t_ret ?_
    refine bp_ret (rs2 rfl (rv_cN (vs := (N3.cells (N3.mk 0 0 0))) g28 rfl hb1 rfl rfl) (rv_tmp (v := (i64 30)) rfl)) ?_
    exact ⟨by simp only [atN, atE]; rw [if_neg (by omega), if_neg (by omega)], hE⟩
  ·
    have p8 := of_decide_eq_false h4
    refine g_yes rfl rfl rfl h4 ?_
    refine s1 (v := (i64 i)) (rn_mv rfl) ?_
    refine g_yes rfl rfl rfl h4 ?_
    refine s1 (v := (ptr p 0)) (rn_mv rfl) ?_
    refine g_yes rfl rfl rfl h4 ?_
    refine s_callP e69 (v := (i64 (xs.length : Int))) (vs := [(ptr p 0)]) rfl (Size_c ⟨_, _, hpp, hrp⟩) (fun w9 x10 => ?_)
    replace hE := hE.step0 x10
    replace hpp := hpp.ext0 x10
    replace hb1 := hb1.ext0 x10
    replace hrp := hrp.ext0 x10
    replace hlsp := hlsp.ext0 x10
    clear x10
    refine g_yes rfl rfl rfl h4 ?_
    refine s1 (v := (.bool (decide ((xs.length : Int) ≤ i)))) (rn_geq (m := i) (n := (xs.length : Int)) rfl rfl) ?_
    refine s1 (v := (.bool (decide ((xs.length : Int) ≤ i)))) (rn_pF (b := (decide (i < 0))) rfl h4 rfl) ?_
    refine w_end ?_
    refine c_if (b := (decide ((xs.length : Int) ≤ i))) rfl (fun h11 => ?_) (fun h11 => ?_)
    ·
      have p12 := of_decide_eq_true h11
      refine c_rs ?_
      refine s1 (v := (N3.val (N3.mk 0 0 0))) (bd28_ ) ?_
      refine s_st (v := (N3.val (N3.mk 0 0 0))) (vs := (N3.cells (N3.mk 0 0 0))) (cs' := (N3.cells (N3.mk 0 0 0))) g28.2 rfl rfl rfl rfl hb1 (by simp) rfl rfl (fun w13 h_ x14 => ?_)
      replace hE := hE.step1 x14 (by first | (left; simp; done) | (right; omega))
      replace hpp := hpp.ext1 x14 (by omega)
      replace hrp := hrp.ext1 x14 (by omega)
      replace hlsp := hlsp.ext1 x14 (by omega)
      clear x14
      replace hb1 := h_; clear h_
      refine s1 (v := (i64 30)) (rn_as rfl) ?_
      refine w_end ?_
      refine c_ret ?_
      refine t_ret ?_
      refine bp_ret (rs2 rfl (rv_cN (vs := (N3.cells (N3.mk 0 0 0))) g28 rfl hb1 rfl rfl) (rv_tmp (v := (i64 30)) rfl)) ?_
      exact ⟨by simp only [atN, atE]; rw [if_neg (by omega), if_neg (by omega)], hE⟩
    ·
      have p15 := of_decide_eq_false h11
      refine c_skip' ?_
      refine t_norm ?_
      refine c_rs ?_
      refine s1 (v := (ptr p 0)) (rn_mv rfl) ?_
      refine s1 (v := (ptr p 0)) (rn_nil rfl) ?_
      refine s1 (v := (ptr p 0)) (rn_fa fa123_0 rfl rfl) ?_
      refine s1 (v := (.slice (some ⟨b, 0, none⟩) xs.length cp)) (rn_lb1 o22 rfl hpp rfl) ?_
      refine s1 (v := (i64 i)) (rn_mv rfl) ?_
      obtain ⟨x19, o16, hx20, hA17, el18⟩ := hlsp.el (k := (i).toNat) (by omega)
      refine s1 (v := (ptr b (o16 + (i).toNat * 3))) (rn_ie is22 rfl hA17 rfl (by omega) (by omega) rfl) ?_
      refine s1 (v := (N3.val x19)) (rn_ldN (vs := (N3.cells x19)) g28 rfl rfl el18) ?_
      refine s_st (v := (N3.val x19)) (vs := (N3.cells x19)) (cs' := (N3.cells x19)) g28.2 rfl rfl rfl rfl hb1 (by simp) rfl rfl (fun w21 h_ x22 => ?_)
      replace hE := hE.step1 x22 (by first | (left; simp; done) | (right; omega))
      replace hpp := hpp.ext1 x22 (by omega)
      replace el18 := el18.ext1 x22 (by omega)
      replace hrp := hrp.ext1 x22 (by omega)
      replace hlsp := hlsp.ext1 x22 (by omega)
      clear x22
      replace hb1 := h_; clear h_
      refine s1 (v := (i64 0)) (rn_as rfl) ?_
      refine w_end ?_
      refine c_ret ?_
      refine bp_ret (rs2 rfl (rv_cN (vs := (N3.cells x19)) g28 rfl hb1 rfl rfl) (rv_tmp (v := (i64 0)) rfl)) ?_
      exact ⟨by simp only [atN, atE]; rw [if_pos (by omega), if_pos (by omega), getD_of hx20], hE⟩

theorem AllIds_c (s : S4) {w0 : World} :
    Calls Try.prog 110 [(S4.val s)].toArray w0 (Ret (fun v w' => ∃ q, v = .func (.func 141) #[] #[ptr q 0] ∧ Blk w' q 34 (S4.cells s) ∧ w0.heap.size ≤ q ∧ Ext [] w0 w')) := by
  have hE : Ext [] w0 w0 := (Ext.refl w0).more (by simp)
  refine enter (vs := [(S4.val s)]) Try.func110 rfl Try.ntmps110 rfl ?_
  refine c_rs ?_
  refine s_box (v := (S4.val s)) (cs := (S4.cells s)) rfl rfl (fun b1 w2 hb1 gb1 x3 => ?_)
  have nb1_hE : w0.heap.size ≤ b1 := Nat.le_trans hE.size gb1
  clear gb1
  replace hE := hE.step0 x3
  clear x3
  refine s1 (v := .nilFunc) (rn_as rfl) ?_
  refine w_end ?_
  refine c_rs ?_
  refine s1 (v := (.func (.func 141) #[] #[(ptr b1 0)])) (rn_mf (vs := [(ptr b1 0)]) rfl) ?_
  refine s1 (v := (.func (.func 141) #[] #[(ptr b1 0)])) (rn_as rfl) ?_
  refine w_end ?_
  refine c_ret ?_
  refine bp_ret (rs1 rfl (rv_tmp (v := (.func (.func 141) #[] #[(ptr b1 0)])) rfl)) ?_
  exact ⟨b1, rfl, hb1, by omega, hE⟩

theorem IdAll1_it {q : Nat} {s : S4} {W : World} {L : List Nat} (hq : Blk W q 34 (S4.cells s)) (hqL : q ∉ L) :
    Iter Try.prog 141 [ptr q 0] (idsS s).length (argI (idsS s)) W L := by
  intro l J hlp hJ hy h0
  have hE : Ext [] W W := (Ext.refl W).more (by simp)
  obtain ⟨lq, hlq⟩ := hlp
  have hql := hq.ne_loop hlq
  have hqW := hq.lt
  refine enter (vs := [(.func (.yield l) #[] #[]), (ptr q 0)]) Try.func141 rfl Try.ntmps141 rfl ?_
  refine c_rs ?_
  refine s1 (v := (i64 0)) (rn_mv rfl) ?_
  refine w_end ?_
  refine c_block ?_
  have hsW : W.heap.size ≤ W.heap.size := Nat.le_refl _
  have hj : J (cnt s 0) [] W := h0
  have hS : ∀ c ∈ ([] : List Nat), W.heap.size ≤ c := by simp
  refine c_loop (fun d a w => ∃ (k1 : Nat) (S2 : List Nat) (z_k1 : Nat → Value) , a = Fr 17 (lk [(.func (.yield l) #[] #[]), (ptr q 0), undef, (z_k1 3), (i64 (k1 : Int)), (z_k1 5), (z_k1 6), (z_k1 7), (z_k1 8), (z_k1 9), (z_k1 10), (z_k1 11), (z_k1 12), (z_k1 13), (z_k1 14), (z_k1 15), (z_k1 16)]) [] ∧ d = 100 - k1 ∧ k1 ≤ 100 ∧ Blk w q 34 (S4.cells s) ∧ J (cnt s k1) S2 w ∧ W.heap.size ≤ w.heap.size ∧ ∀ c ∈ S2, W.heap.size ≤ c) (100 - 0) ?_ ?_
  · exact ⟨0, [], (lk [(.func (.yield l) #[] #[]), (ptr q 0), undef, undef, (i64 0), undef, undef, undef, undef, undef, undef, undef, undef, undef, undef, undef, undef]), Fr_congr (by kernel_rfl), rfl, Nat.zero_le _, hq, hj, hsW, hS⟩
  clear hq
  clear hj
  clear hsW
  clear hS
  rintro d a w3 ⟨k1, S2, z_k1, rfl, rfl, hlek1, hq, hj, hsW, hS⟩
  have hEAk1 := Ext.refl w3
  have hswk1 : W.heap.size ≤ w3.heap.size := hsW
  have hSk1 := hS
  refine c_rs ?_
  refine s1 (v := (.bool (decide ((k1 : Int) < 100)))) (rn_lss (m := (k1 : Int)) (n := 100) rfl rfl) ?_
  refine w_end ?_
  refine c_seq ?_
  refine c_if (b := (decide ((k1 : Int) < 100))) rfl (fun h4 => ?_) (fun h4 => ?_)
  ·
    have p5 := of_decide_eq_true h4
    refine c_skip' ?_
    refine t_norm ?_
    refine c_seq ?_
    refine c_block ?_
    refine c_rs ?_
    refine s1 (v := (i64 (k1 : Int))) (rn_mv rfl) ?_
    refine s1 (v := (i64 (k1 : Int))) (rn_as rfl) ?_
    refine w_end ?_
    refine c_rs ?_
    refine s1 (v := (S4.val s)) (rn_lbN (vs := (S4.cells s)) g34 rfl hq rfl rfl) ?_
    refine s1 (v := (i64 (k1 : Int))) (rn_mv rfl) ?_
    refine s_callP e80 (v := (.bool (hasB s (k1 : Int)))) (vs := [(S4.val s), (i64 (k1 : Int))]) rfl (Has_c s (k1 : Int) _) (fun w6 x7 => ?_)
    replace hEAk1 := hEAk1.step0 x7
    replace hq := hq.ext0 x7
    clear x7
    refine s1 (v := (.bool (hasB s (k1 : Int)))) (rn_mv rfl) ?_
    rcases Bool.eq_false_or_eq_true (hasB s (k1 : Int)) with h8 | h8
    ·
      refine g_yes rfl rfl rfl h8 ?_
      refine s1 (v := (.func (.yield l) #[] #[])) (rn_mv rfl) ?_
      refine g_yes rfl rfl rfl h8 ?_
      refine s1 (v := (i64 (k1 : Int))) (rn_mv rfl) ?_
      refine g_yes rfl rfl rfl h8 ?_
      have hhs : s.has k1 = true := by have h_ := h8; unfold hasB at h_; rw [Bool.and_eq_true, Int.toNat_natCast] at h_; exact h_.2
      have hkk := ids_at s (by omega : k1 < 100) hhs
      have hky := cnt_lt s (by omega : k1 < 100) hhs
      have hj11 := hJ _ _ _ _ hj (Its.of_ext hEAk1 hswk1)
      have hsz_k1 := hEAk1.size
      refine s_yield rfl rfl (by rw [← argI_eq hkk]; exact hy (cnt s k1) S2 _ hky hj11 (by omega) hSk1) (fun w9 h_ => ?_)
      obtain ⟨S12, hj2k1, hR10, hS2k1⟩ := h_
      have hq := hq.rnd hR10 (by simp only [List.mem_cons, not_or]; exact ⟨hql, hqL⟩) (fun h_ => by have := hSk1 _ h_; omega)
      have hsW : W.heap.size ≤ w9.heap.size := by have h2_ := hR10.size; omega
      have hj : J (cnt s (k1 + 1)) S12 w9 := by rw [cnt_succ, if_pos hhs]; exact hj2k1
      have hS : ∀ c ∈ S12, W.heap.size ≤ c := fun c hc => by rcases hS2k1 c hc with h_ | h_; exact hSk1 c h_; omega
      refine g_yes rfl rfl rfl h8 ?_
      refine s1 (v := (.bool false)) (rn_not (b := true) rfl) ?_
      refine s1 (v := (.bool false)) (rn_pT (b := (hasB s (k1 : Int))) rfl h8 rfl) ?_
      refine w_end ?_
      refine c_F (b := false) rfl rfl ?_
      refine c_skip' ?_
      refine b_norm ?_
      refine t_norm ?_
      refine c_r ?_
      refine s1 (v := (i64 ((k1 : Int) + 1))) (rn_add (m := (k1 : Int)) (n := 1) rfl rfl (wr64 (by omega) (by omega))) ?_
      refine s1 (v := (i64 ((k1 : Int) + 1))) (rn_mv rfl) ?_
      refine w_nil ?_
      refine t_norm ?_
      exact ⟨100 - (k1 + 1), by omega, k1 + 1, S12, (lk [(.func (.yield l) #[] #[]), (ptr q 0), undef, (i64 (k1 : Int)), (i64 ((k1 : Int) + 1)), (.bool (decide ((k1 : Int) < 100))), (i64 (k1 : Int)), (S4.val s), (i64 (k1 : Int)), (.bool (hasB s (k1 : Int))), (.bool (hasB s (k1 : Int))), (.func (.yield l) #[] #[]), (i64 (k1 : Int)), (.bool true), (.bool false), (.bool false), (i64 ((k1 : Int) + 1))]), Fr_congr (by kernel_rfl), rfl, by omega, hq, hj, hsW, hS⟩
    ·
      refine g_not rfl rfl rfl h8 ?_
      refine g_not rfl rfl rfl h8 ?_
      refine g_not rfl rfl rfl h8 ?_
      refine g_not rfl rfl rfl h8 ?_
      refine s1 (v := (.bool false)) (rn_pF (b := (hasB s (k1 : Int))) rfl h8 rfl) ?_
      refine w_end ?_
      refine c_F (b := false) rfl rfl ?_
      refine c_skip' ?_
      refine b_norm ?_
      refine t_norm ?_
      refine c_r ?_
      refine s1 (v := (i64 ((k1 : Int) + 1))) (rn_add (m := (k1 : Int)) (n := 1) rfl rfl (wr64 (by omega) (by omega))) ?_
      refine s1 (v := (i64 ((k1 : Int) + 1))) (rn_mv rfl) ?_
      refine w_nil ?_
      refine t_norm ?_
      have hhs : ¬ s.has k1 = true := by have h_ := h8; unfold hasB at h_; rw [Int.toNat_natCast] at h_; intro h2_; rw [h2_, Bool.and_true] at h_; simp [isIdB] at h_; omega
      have hj : J (cnt s (k1 + 1)) S2 w6 := by rw [cnt_succ, if_neg hhs]; exact hJ _ _ _ _ hj (Its.of_ext hEAk1 hswk1)
      have hsW : W.heap.size ≤ w6.heap.size := by have h2_ := hEAk1.size; omega
      exact ⟨100 - (k1 + 1), by omega, k1 + 1, S2, (lk [(.func (.yield l) #[] #[]), (ptr q 0), undef, (i64 (k1 : Int)), (i64 ((k1 : Int) + 1)), (.bool (decide ((k1 : Int) < 100))), (i64 (k1 : Int)), (S4.val s), (i64 (k1 : Int)), (.bool (hasB s (k1 : Int))), (.bool (hasB s (k1 : Int))), undef, undef, undef, undef, (.bool false), (i64 ((k1 : Int) + 1))]), Fr_congr (by kernel_rfl), rfl, by omega, hq, hj, hsW, hS⟩
  ·
    have p13 := of_decide_eq_false h4
    refine c_exit ?_
    refine t_exit ?_
    refine t_exit ?_
    refine b_here ?_
    refine bp_end (rs0 rfl) ?_
    obtain rfl : k1 = 100 := by omega
    exact ⟨_, hj⟩

theorem Doubts_c {p b : Nat} {xs : List N3} {w0 : World} (hB : Bk w0 p b xs) (hn : xs.length ≤ 100) (s : S4) :
    Calls Try.prog 56 [(ptr p 0), (S4.val s)].toArray w0 (Ret (fun v w' => ∃ A' c' g', v = .slice A' (doubtsL xs (idsS s)).length c' ∧ Ls N3.cells 3 w' g' A' (doubtsL xs (idsS s)) ∧ (w0.heap.size ≤ g' ∨ (doubtsL xs (idsS s)).length = 0) ∧ Ext [] w0 w')) := by
  have hE : Ext [] w0 w0 := (Ext.refl w0).more (by simp)
  have hltp := hB.ltp
  have hlbp := hB.ltb
  have hil := idsS_le s
  refine enterM (vs := [(ptr p 0), (S4.val s)]) Try.func56 rfl Try.ntmps56 rfl ?_
  refine c_rs ?_
  refine s_box (v := (ptr p 0)) (cs := [(ptr p 0)]) rfl rfl (fun b1 w2 hb1 gb1 x3 => ?_)
  have nb1_hE : w0.heap.size ≤ b1 := Nat.le_trans hE.size gb1
  clear gb1
  replace hE := hE.step0 x3
  replace hB := hB.ext0 x3
  clear x3
  refine s_box (v := (S4.val s)) (cs := (S4.cells s)) rfl rfl (fun b4 w5 hb4 gb4 x6 => ?_)
  have nb4_hE : w0.heap.size ≤ b4 := Nat.le_trans hE.size gb4
  have ob4 : b1 < b4 := Nat.lt_of_lt_of_le hb1.lt gb4
  clear gb4
  replace hE := hE.step0 x6
  replace hb1 := hb1.ext0 x6
  replace hB := hB.ext0 x6
  clear x6
  refine s1 (v := (.slice none 0 0)) (rn_as rfl) ?_
  refine w_end ?_
  refine c_rs ?_
  refine s_alloc (cs := [(.slice none 0 0)]) z22 rfl (fun b7 w8 hb7 gb7 x9 => ?_)
  have nb7_hE : w0.heap.size ≤ b7 := Nat.le_trans hE.size gb7
  have ob7 : b4 < b7 := Nat.lt_of_lt_of_le hb4.lt gb7
  clear gb7
  replace hE := hE.step0 x9
  replace hb1 := hb1.ext0 x9
  replace hb4 := hb4.ext0 x9
  replace hB := hB.ext0 x9
  clear x9
  refine w_end ?_
  refine c_seq ?_
  refine c_rs ?_
  refine s1 (v := (S4.val s)) (rn_lbN (vs := (S4.cells s)) g34 rfl hb4 rfl rfl) ?_
  refine s_call e110 (vs := [(S4.val s)]) rfl (AllIds_c s) ?_
  rintro _ w11 ⟨b10, rfl, hb10, gb10, x12⟩
  have nb10_hE : w0.heap.size ≤ b10 := Nat.le_trans hE.size gb10
  have ob10 : b7 < b10 := Nat.lt_of_lt_of_le hb7.lt gb10
  clear gb10
  replace hE := hE.step0 x12
  replace hb1 := hb1.ext0 x12
  replace hb4 := hb4.ext0 x12
  replace hb7 := hb7.ext0 x12
  replace hB := hB.ext0 x12
  clear x12
  refine w_end ?_
  refine c_block ?_
  have hO : Ow w11.heap.size 28 N3.cells 3 w11 (.slice none 0 0) [] := Ow.nil
  have hNw15 := hE.size
  have hq1_b10 := hb10.lt
  refine c_range (gf := 141) (n := (idsS s).length) (arg := (argI (idsS s))) (L := [b7]) (lb := [(ptr b10 0)]) rfl e141 (fun W hC => IdAll1_it (hb10.ext0 hC) (by simp only [List.mem_cons, List.not_mem_nil, or_false]; omega)) (by simp; try omega) (fun k13 S W => ∃ (v14 : Value) , S = obl v14 ∧ Ext [] w0 W ∧ Blk W b1 25 [(ptr p 0)] ∧ Blk W b4 34 (S4.cells s) ∧ Blk W b7 22 [v14] ∧ Blk W b10 34 (S4.cells s) ∧ Bk W p b xs ∧ Ow w11.heap.size 28 N3.cells 3 W v14 (doubtsL xs ((idsS s).take k13))) ⟨(.slice none 0 0), rfl, hE, hb1, hb4, hb7, hb10, hB, hO⟩ (fun k13 S A B ⟨v14, hSe, hE, hb1, hb4, hb7, hb10, hB, hO⟩ hI => ⟨v14, hSe, hE.its hI (by omega), hb1.its hI, hb4.its hI, hb7.its hI, hb10.its hI, hB.its hI, hO.its hI⟩) ?_ ?_
  · skip
    clear hE
    clear hb1
    clear hb4
    clear hb7
    clear hb10
    clear hB
    clear hO
    rintro lp k13 S w16 hk17 ⟨v14, rfl, hE, hb1, hb4, hb7, hb10, hB, hO⟩ hA18 hSN19
    obtain ⟨x20, hx21⟩ : ∃ x, (idsS s)[k13]? = some x := ⟨_, List.getElem?_eq_getElem hk17⟩
    rw [argI_eq hx21]
    have hxlx20 := idsS_lt hx21
    have hbdk13 := doubtsL_le xs ((idsS s).take k13); have hbek13 : ((idsS s).take k13).length ≤ k13 := by simp; omega
    have hEA22 := Ext.refl w16
    refine c_r ?_
    refine s1 (v := (i64 (x20 : Int))) (rn_as rfl) ?_
    refine w_nil ?_
    refine t_norm ⟨hEA22, fun w23 hI24 => ?_⟩
    have hszw23 := hEA22.size
    have hsyw23 := hI24.size
    replace hE := hE.its hI24 (by omega)
    replace hb1 := hb1.its hI24
    replace hb4 := hb4.its hI24
    replace hb7 := hb7.its hI24
    replace hb10 := hb10.its hI24
    replace hB := hB.its hI24
    replace hO := hO.its hI24
    have hR25 : Ext ([b7] ++ obl v14) w23 w23 := (Ext.refl w23).more (by simp)
    have hQ26 : ∀ c ∈ ([b7] ++ obl v14 : List Nat), ((∃ cs e z, w23.heap[c]? = some (Obj.cells cs e z)) ∨ w23.heap.size ≤ c) ∧ (c ∈ ([b7] : List Nat) ∨ c ∈ (obl v14 : List Nat) ∨ w23.heap.size ≤ c) := by
      intro c hc
      rcases List.mem_append.1 hc with hc | hc
      · simp at hc; subst hc; exact ⟨.inl hb7.cellsAt, .inl (by simp)⟩
      · exact ⟨.inl (hO.cellsAt c hc), .inr (.inl hc)⟩
    refine c_block ?_
    refine c_rs ?_
    refine s1 (v := (ptr p 0)) (rn_lb1 o25 rfl hb1 rfl) ?_
    refine s1 (v := (i64 (x20 : Int))) (rn_mv rfl) ?_
    refine s_callP e22 (v := (.tuple #[(N3.val (atN xs (x20 : Int))), (i64 (atE xs (x20 : Int)))])) (vs := [(ptr p 0), (i64 (x20 : Int))]) rfl (AtG_c hB (x20 : Int)) (fun w27 x28 => ?_)
    replace hE := hE.step0 x28
    replace hR25 := hR25.step0 x28
    replace hb1 := hb1.ext0 x28
    replace hb4 := hb4.ext0 x28
    replace hb7 := hb7.ext0 x28
    replace hb10 := hb10.ext0 x28
    replace hB := hB.ext0 x28
    replace hO := hO.ext0 x28
    clear x28
    refine s1 (v := (.tuple #[(N3.val (atN xs (x20 : Int))), (i64 (atE xs (x20 : Int)))])) (rn_mv rfl) ?_
    refine s1 (v := (N3.val (atN xs (x20 : Int)))) (rn_ex (vs := [(N3.val (atN xs (x20 : Int))), (i64 (atE xs (x20 : Int)))]) rfl rfl) ?_
    refine s1 (v := (i64 (atE xs (x20 : Int)))) (rn_ex (vs := [(N3.val (atN xs (x20 : Int))), (i64 (atE xs (x20 : Int)))]) rfl rfl) ?_
    refine s_alloc (cs := [(i64 0), (i64 0), (i64 0)]) z28 rfl (fun b29 w30 hb29 gb29 x31 => ?_)
    have nb29_hE : w0.heap.size ≤ b29 := Nat.le_trans hE.size gb29
    have nb29_hR25 : w23.heap.size ≤ b29 := Nat.le_trans hR25.size gb29
    have ob29 : b10 < b29 := Nat.lt_of_lt_of_le hb10.lt gb29
    have obb29_hO : ∀ c ∈ obl v14, c < b29 := fun c hc => Nat.lt_of_lt_of_le (hO.lt c hc).2 gb29
    clear gb29
    replace hE := hE.step0 x31
    replace hR25 := hR25.step0 x31
    replace hb1 := hb1.ext0 x31
    replace hb4 := hb4.ext0 x31
    replace hb7 := hb7.ext0 x31
    replace hb10 := hb10.ext0 x31
    replace hB := hB.ext0 x31
    replace hO := hO.ext0 x31
    clear x31
    refine s_st (v := (N3.val (atN xs (x20 : Int)))) (vs := (N3.cells (atN xs (x20 : Int)))) (cs' := (N3.cells (atN xs (x20 : Int)))) g28.2 rfl rfl rfl rfl hb29 (by simp) rfl rfl (fun w32 h_ x33 => ?_)
    replace hE := hE.step1 x33 (by first | (left; simp; done) | (right; omega))
    replace hR25 := hR25.step1 x33 (by first | (left; simp; done) | (right; omega))
    replace hb1 := hb1.ext1 x33 (by omega)
    replace hb4 := hb4.ext1 x33 (by omega)
    replace hb7 := hb7.ext1 x33 (by omega)
    replace hb10 := hb10.ext1 x33 (by omega)
    replace hB := hB.ext1 x33 (by omega)
    replace hO := hO.ext x33 (fun c hc => by have h_ := hO.lt c hc; have := obb29_hO c hc; simp; omega)
    clear x33
    replace hb29 := h_; clear h_
    refine s1 (v := (i64 (atE xs (x20 : Int)))) (rn_as rfl) ?_
    refine w_end ?_
    refine c_rs ?_
    refine s1 (v := (i64 (atE xs (x20 : Int)))) (rn_mv rfl) ?_
    refine s1 (v := (.bool (decide (atE xs (x20 : Int) = 0)))) (rn_eql (m := atE xs (x20 : Int)) (n := 0) rfl rfl) ?_
    refine s1 (v := (.bool (decide (atE xs (x20 : Int) = 0)))) (rn_mv rfl) ?_
    rcases Bool.eq_false_or_eq_true (decide (atE xs (x20 : Int) = 0)) with h34 | h34
    ·
      have p35 := of_decide_eq_true h34
      refine g_yes rfl rfl rfl h34 ?_
      refine s1 (v := (ptr b29 2)) (rn_fa fa28_2 rfl rfl) ?_
      refine g_yes rfl rfl rfl h34 ?_
      refine s1 (v := (i64 ((atN xs (x20 : Int)).kind))) (rn_lb1 o3 rfl hb29 rfl) ?_
      refine g_yes rfl rfl rfl h34 ?_
      refine s1 (v := (.bool (decide ((atN xs (x20 : Int)).kind = 1)))) (rn_eql (m := (atN xs (x20 : Int)).kind) (n := 1) rfl rfl) ?_
      refine s1 (v := (.bool (decide ((atN xs (x20 : Int)).kind = 1)))) (rn_pT (b := (decide (atE xs (x20 : Int) = 0))) rfl h34 rfl) ?_
      refine w_end ?_
      refine c_if (b := (decide ((atN xs (x20 : Int)).kind = 1))) rfl (fun h36 => ?_) (fun h36 => ?_)
      ·
        have p37 := of_decide_eq_true h36
        refine c_rs ?_
        refine s1 (v := (ptr b29 2)) (rn_fa fa28_2 rfl rfl) ?_
        refine s_st (v := (i64 2)) (vs := [(i64 2)]) (cs' := (N3.cells (N3.mk ((atN xs (x20 : Int)).of) ((atN xs (x20 : Int)).tag) 2))) o3.2 rfl rfl rfl rfl hb29 (by simp) rfl rfl (fun w38 h_ x39 => ?_)
        replace hE := hE.step1 x39 (by first | (left; simp; done) | (right; omega))
        replace hR25 := hR25.step1 x39 (by first | (left; simp; done) | (right; omega))
        replace hb1 := hb1.ext1 x39 (by omega)
        replace hb4 := hb4.ext1 x39 (by omega)
        replace hb7 := hb7.ext1 x39 (by omega)
        replace hb10 := hb10.ext1 x39 (by omega)
        replace hB := hB.ext1 x39 (by omega)
        replace hO := hO.ext x39 (fun c hc => by have h_ := hO.lt c hc; have := obb29_hO c hc; simp; omega)
        clear x39
        replace hb29 := h_; clear h_
        refine w_end ?_
        refine c_r ?_
        refine s1 (v := v14) (rn_lb1 o22 rfl hb7 rfl) ?_
        refine s1 (v := (N3.val (N3.mk ((atN xs (x20 : Int)).of) ((atN xs (x20 : Int)).tag) 2))) (rn_lbN (vs := (N3.cells (N3.mk ((atN xs (x20 : Int)).of) ((atN xs (x20 : Int)).tag) 2))) g28 rfl hb29 rfl rfl) ?_
        refine s_bs et22 (vs := #[(0, (N3.val (N3.mk ((atN xs (x20 : Int)).of) ((atN xs (x20 : Int)).tag) 2)))]) (cs := [(i64 ((N3.mk ((atN xs (x20 : Int)).of) ((atN xs (x20 : Int)).tag) 2).of)), (i64 ((N3.mk ((atN xs (x20 : Int)).of) ((atN xs (x20 : Int)).tag) 2).tag)), (i64 ((N3.mk ((atN xs (x20 : Int)).of) ((atN xs (x20 : Int)).tag) 2).kind))]) (by kernel_rfl) (by decide) (by kernel_rfl) (fun b40 w41 hb40 gb40 x42 => ?_)
        have nb40_hE : w0.heap.size ≤ b40 := Nat.le_trans hE.size gb40
        have nb40_hR25 : w23.heap.size ≤ b40 := Nat.le_trans hR25.size gb40
        have ob40 : b29 < b40 := Nat.lt_of_lt_of_le hb29.lt gb40
        have obb40_hO : ∀ c ∈ obl v14, c < b40 := fun c hc => Nat.lt_of_lt_of_le (hO.lt c hc).2 gb40
        clear gb40
        replace hE := hE.step0 x42
        replace hR25 := hR25.step0 x42
        replace hb1 := hb1.ext0 x42
        replace hb4 := hb4.ext0 x42
        replace hb7 := hb7.ext0 x42
        replace hb10 := hb10.ext0 x42
        replace hb29 := hb29.ext0 x42
        replace hB := hB.ext0 x42
        replace hO := hO.ext0 x42
        clear x42
        have hl43 : Ls N3.cells 3 w41 b40 (some ⟨b40, 0, none⟩) [(N3.mk ((atN xs (x20 : Int)).of) ((atN xs (x20 : Int)).tag) 2)] := Ls.of_blk (rest := []) (fun _ => rfl) hb40
        refine s_app (ys := [(N3.mk ((atN xs (x20 : Int)).of) ((atN xs (x20 : Int)).tag) 2)]) et22 (fun _ => rfl) (fun _ => rfl) hO (by have h_ := hR25.size; omega) rfl rfl hl43 (by simp only [List.length_cons, List.length_nil]; omega) (by simp only [List.length_cons, List.length_nil]; omega) (fun v44 w45 hO47 x46 hVv44 => ?_)
        have hVsv44 := hR25.size
        clear hb29
        clear hb40
        clear hl43
        replace hE := hE.step x46 (fun c hc => by first | (left; simp [hc]; done) | (right; have h_ := hO.lt c hc; have := obb29_hO c hc; have := obb40_hO c hc; omega))
        replace hR25 := hR25.step x46 (fun c hc => by first | (left; simp [hc]; done) | (right; have h_ := hO.lt c hc; have := obb29_hO c hc; have := obb40_hO c hc; omega))
        replace hb1 := hb1.ext x46 (fun hc => by have h_ := hO.lt _ hc; have := obb29_hO _ hc; have := obb40_hO _ hc; first | omega | (exfalso; omega))
        replace hb4 := hb4.ext x46 (fun hc => by have h_ := hO.lt _ hc; have := obb29_hO _ hc; have := obb40_hO _ hc; first | omega | (exfalso; omega))
        replace hb7 := hb7.ext x46 (fun hc => by have h_ := hO.lt _ hc; have := obb29_hO _ hc; have := obb40_hO _ hc; first | omega | (exfalso; omega))
        replace hb10 := hb10.ext x46 (fun hc => by have h_ := hO.lt _ hc; have := obb29_hO _ hc; have := obb40_hO _ hc; first | omega | (exfalso; omega))
        replace hB := hB.ext x46 (fun hc => by have h_ := hO.lt _ hc; have := obb29_hO _ hc; have := obb40_hO _ hc; omega) (fun hc => by have h_ := hO.lt _ hc; have := obb29_hO _ hc; have := obb40_hO _ hc; omega)
        clear x46
        replace hO := hO47; clear hO47
        refine s_st (v := v44) (vs := [v44]) (cs' := [v44]) o22.2 rfl rfl hO.cell1 rfl hb7 (by simp) hO.one rfl (fun w48 h_ x49 => ?_)
        replace hE := hE.step1 x49 (by first | (left; simp; done) | (right; omega))
        replace hR25 := hR25.step1 x49 (by first | (left; simp; done) | (right; omega))
        replace hb1 := hb1.ext1 x49 (by omega)
        replace hb4 := hb4.ext1 x49 (by omega)
        replace hb10 := hb10.ext1 x49 (by omega)
        replace hB := hB.ext1 x49 (by omega)
        replace hO := hO.ext x49 (fun c hc => by have h_ := hO.lt c hc; simp; omega)
        clear x49
        replace hb7 := h_; clear h_
        refine w_nil ?_
        refine b_norm ?_
        have hdb : doubtB xs x20 = true := by unfold doubtB; rw [h34, h36]; rfl
        have en : doubtsL xs ((idsS s).take (k13 + 1)) = doubtsL xs ((idsS s).take k13) ++ [N3.mk (atN xs (x20 : Int)).of (atN xs (x20 : Int)).tag 2] := by rw [take_snoc hx21, doubtsL_snoc, hdb]; rfl
        rw [← en] at hO
        exact ⟨obl v44, ⟨v44, rfl, hE, hb1, hb4, hb7, hb10, hB, hO⟩, Rnd.of_ext hR25 hQ26, (fun c hc => (hVv44 c hc).imp_right (fun q => Nat.le_trans hVsv44 q))⟩
      ·
        have p50 := of_decide_eq_false h36
        refine c_skip' ?_
        refine b_norm ?_
        have hdb : doubtB xs x20 = false := by unfold doubtB; rw [h34, h36]; rfl
        have en : doubtsL xs ((idsS s).take (k13 + 1)) = doubtsL xs ((idsS s).take k13) := by rw [take_snoc hx21, doubtsL_snoc, hdb]; rfl
        rw [← en] at hO
        exact ⟨obl v14, ⟨v14, rfl, hE, hb1, hb4, hb7, hb10, hB, hO⟩, Rnd.of_ext hR25 hQ26, fun c hc => .inl hc⟩
    ·
      have p51 := of_decide_eq_false h34
      refine g_not rfl rfl rfl h34 ?_
      refine g_not rfl rfl rfl h34 ?_
      refine g_not rfl rfl rfl h34 ?_
      refine s1 (v := (.bool false)) (rn_pF (b := (decide (atE xs (x20 : Int) = 0))) rfl h34 rfl) ?_
      refine w_end ?_
      refine c_F (b := false) rfl rfl ?_
      refine c_skip' ?_
      refine b_norm ?_
      have hdb : doubtB xs x20 = false := by unfold doubtB; rw [h34]; rfl
      have en : doubtsL xs ((idsS s).take (k13 + 1)) = doubtsL xs ((idsS s).take k13) := by rw [take_snoc hx21, doubtsL_snoc, hdb]; rfl
      rw [← en] at hO
      exact ⟨obl v14, ⟨v14, rfl, hE, hb1, hb4, hb7, hb10, hB, hO⟩, Rnd.of_ext hR25 hQ26, fun c hc => .inl hc⟩
  · skip
    clear hE
    clear hb1
    clear hb4
    clear hb7
    clear hb10
    clear hB
    clear hO
    rintro D53 w52 S ⟨v57, rfl, hE, hb1, hb4, hb7, hb10, hB, hO⟩ hD54 hK55 hSN56
    change Dfr w52 D53 at hK55
    refine b_norm ?_
    refine t_norm ?_
    refine c_rs ?_
    refine s1 (v := v57) (rn_lb1 o22 rfl hb7 rfl) ?_
    refine s1 (v := v57) (rn_as rfl) ?_
    refine w_end ?_
    refine c_ret ?_
    refine bpm_ret hK55 (fun w58 hI59 => ?_)
    replace hE := hE.its hI59 (by omega)
    replace hb1 := hb1.its hI59
    replace hb4 := hb4.its hI59
    replace hb7 := hb7.its hI59
    replace hb10 := hb10.its hI59
    replace hB := hB.its hI59
    replace hO := hO.its hI59
    refine ⟨_, rs1 rfl (rv_tmp (v := v57) rfl), ?_⟩
    simp only [List.take_length] at hO
    obtain ⟨A', c', g', rfl, h1, h2⟩ := Ow.ls (cf := N3.cells) (s := 3) (fun _ => rfl) hO
    exact ⟨A', c', g', rfl, h1, by omega, hE⟩

theorem suspS_snoc (xs : List N3) (x : N3) : suspS (xs ++ [x]) = if x.kind = 2 then withS (suspS xs) x.of.toNat else suspS xs := by simp [suspS]
def newOkB (n self tag : Int) : Bool := decide (1 ≤ n) && decide (n ≤ 100) && decide (0 ≤ self) && decide (self < n) && isTagB tag
def newE (n self tag : Int) : Int := if n < 1 ∨ 100 < n then 1 else if self < 0 ∨ n ≤ self then 30 else 50
theorem newE_ne (n self tag : Int) : newE n self tag ≠ 0 := by unfold newE; split; decide; split <;> decide
theorem newOkB_t {n self tag : Int} (h : newOkB n self tag = true) : (1 ≤ n ∧ n ≤ 100 ∧ 0 ≤ self ∧ self < n) ∧ isTagB tag = true := by simp only [newOkB, Bool.and_eq_true, decide_eq_true_eq] at h; exact ⟨⟨h.1.1.1.1, h.1.1.1.2, h.1.1.2, h.1.2⟩, h.2⟩

theorem Suspects_c {p b : Nat} {xs : List N3} {w0 : World} (hB : Bk w0 p b xs) (hg : Good xs) :
    Calls Try.prog 66 [(ptr p 0)].toArray w0 (Ret (Pu (S4.val (suspS xs)) w0)) := by
  have hE : Ext [] w0 w0 := (Ext.refl w0).more (by simp)
  have hltp := hB.ltp
  have hlbp := hB.ltb
  have h100 := hg.1
  refine enterM (vs := [(ptr p 0)]) Try.func66 rfl Try.ntmps66 rfl ?_
  refine c_rs ?_
  refine s_alloc (cs := [(u32 0), (u32 0), (u32 0), (u32 0)]) z34 rfl (fun b1 w2 hb1 gb1 x3 => ?_)
  have nb1_hE : w0.heap.size ≤ b1 := Nat.le_trans hE.size gb1
  clear gb1
  replace hE := hE.step0 x3
  replace hB := hB.ext0 x3
  clear x3
  refine w_end ?_
  refine c_rs ?_
  refine s_alloc (cs := [(u32 0), (u32 0), (u32 0), (u32 0)]) z34 rfl (fun b4 w5 hb4 gb4 x6 => ?_)
  have nb4_hE : w0.heap.size ≤ b4 := Nat.le_trans hE.size gb4
  have ob4 : b1 < b4 := Nat.lt_of_lt_of_le hb1.lt gb4
  clear gb4
  replace hE := hE.step0 x6
  replace hb1 := hb1.ext0 x6
  replace hB := hB.ext0 x6
  clear x6
  refine w_end ?_
  refine c_seq ?_
  refine c_rs ?_
  refine s1 (v := (ptr p 0)) (rn_mv rfl) ?_
  refine s_call e104 (vs := [(ptr p 0)]) rfl (All_c hB (by first | omega | (simp only [absR_len, mergeR_len, newL_len]; omega))) ?_
  rintro _ w12 ⟨b11, A7, c8, g9, rfl, hb11, hl10, gb11, gg9, x13⟩
  have nb11_hE : w0.heap.size ≤ b11 := Nat.le_trans hE.size gb11
  have ob11 : b4 < b11 := Nat.lt_of_lt_of_le hb4.lt gb11
  clear gb11
  have dg9 := gg9.imp_left (fun q => And.intro (Nat.le_trans hE.size q) (And.intro (Nat.lt_of_lt_of_le hb1.lt q) (Nat.lt_of_lt_of_le hb4.lt q)))
  clear gg9
  replace hE := hE.step0 x13
  replace hb1 := hb1.ext0 x13
  replace hb4 := hb4.ext0 x13
  replace hB := hB.ext0 x13
  clear x13
  refine w_end ?_
  refine c_block ?_
  have hNw15 := hE.size
  have hq1_b11 := hb11.lt
  have hq2_b11 := hl10.lt (by simp)
  refine c_range (gf := 140) (n := xs.length) (arg := (argN xs)) (L := [b4]) (lb := [(ptr b11 0)]) rfl e140 (fun W hC => All1_it (hb11.ext0 hC) (hl10.ext0 hC) (by omega) (by simp only [List.mem_cons, List.not_mem_nil, or_false]; omega) (by simp only [List.mem_cons, List.not_mem_nil, or_false]; omega)) (by simp; try omega) (fun k14 S W => S = [] ∧ Ext [] w0 W ∧ Blk W b1 34 [(u32 0), (u32 0), (u32 0), (u32 0)] ∧ Blk W b4 34 (S4.cells (suspS (xs.take k14))) ∧ Blk W b11 22 [(.slice A7 xs.length c8)] ∧ Bk W p b xs ∧ Ls N3.cells 3 W g9 A7 xs) ⟨rfl, hE, hb1, hb4, hb11, hB, hl10⟩ (fun k14 S A B ⟨hSe, hE, hb1, hb4, hb11, hB, hl10⟩ hI => ⟨hSe, hE.its hI (by omega), hb1.its hI, hb4.its hI, hb11.its hI, hB.its hI, hl10.its hI⟩) ?_ ?_
  · skip
    clear hE
    clear hb1
    clear hb4
    clear hb11
    clear hB
    clear hl10
    rintro lp k14 S w16 hk17 ⟨rfl, hE, hb1, hb4, hb11, hB, hl10⟩ hA18 hSN19
    obtain ⟨x20, hx21⟩ : ∃ x, (xs)[k14]? = some x := ⟨_, List.getElem?_eq_getElem hk17⟩
    rw [argN_eq hx21]
    have hgkk14 := (hg.2 _ _ hx21).1; have hg100k14 := hg.1
    have hEA22 := Ext.refl w16
    refine c_r ?_
    refine s_alloc (cs := [(i64 0), (i64 0), (i64 0)]) z28 rfl (fun b23 w24 hb23 gb23 x25 => ?_)
    have nb23_hE : w0.heap.size ≤ b23 := Nat.le_trans hE.size gb23
    have nb23_hEA22 : w16.heap.size ≤ b23 := Nat.le_trans hEA22.size gb23
    have ob23 : b11 < b23 := Nat.lt_of_lt_of_le hb11.lt gb23
    replace dg9 := orAnd dg9 ((hl10.lt (by simp)).imp_left (fun q => Nat.lt_of_lt_of_le q gb23))
    clear gb23
    replace hE := hE.step0 x25
    replace hEA22 := hEA22.step0 x25
    replace hb1 := hb1.ext0 x25
    replace hb4 := hb4.ext0 x25
    replace hb11 := hb11.ext0 x25
    replace hB := hB.ext0 x25
    replace hl10 := hl10.ext0 x25
    clear x25
    refine s_st (v := (N3.val x20)) (vs := (N3.cells x20)) (cs' := (N3.cells x20)) g28.2 rfl rfl rfl rfl hb23 (by simp) rfl rfl (fun w26 h_ x27 => ?_)
    replace hE := hE.step1 x27 (by first | (left; simp; done) | (right; omega))
    replace hEA22 := hEA22.step1 x27 (by first | (left; simp; done) | (right; omega))
    replace hb1 := hb1.ext1 x27 (by omega)
    replace hb4 := hb4.ext1 x27 (by omega)
    replace hb11 := hb11.ext1 x27 (by omega)
    replace hB := hB.ext1 x27 (by omega)
    replace hl10 := hl10.ext1 x27 (by omega)
    clear x27
    replace hb23 := h_; clear h_
    refine w_nil ?_
    refine t_norm ⟨hEA22, fun w28 hI29 => ?_⟩
    have hszw28 := hEA22.size
    have hsyw28 := hI29.size
    replace hE := hE.its hI29 (by omega)
    replace hb1 := hb1.its hI29
    replace hb4 := hb4.its hI29
    replace hb11 := hb11.its hI29
    replace hb23 := hb23.its hI29
    replace hB := hB.its hI29
    replace hl10 := hl10.its hI29
    have hR30 : Ext ([b4]) w28 w28 := (Ext.refl w28).more (by simp)
    have hQ31 : ∀ c ∈ ([b4] : List Nat), ((∃ cs e z, w28.heap[c]? = some (Obj.cells cs e z)) ∨ w28.heap.size ≤ c) ∧ (c ∈ ([b4] : List Nat) ∨ c ∈ ([] : List Nat) ∨ w28.heap.size ≤ c) := by
      intro c hc
      simp at hc; subst hc; exact ⟨.inl hb4.cellsAt, .inl (by simp)⟩
    refine c_block ?_
    refine c_rs ?_
    refine s1 (v := (ptr b23 2)) (rn_fa fa28_2 rfl rfl) ?_
    refine s1 (v := (i64 x20.kind)) (rn_lb1 o3 rfl hb23 rfl) ?_
    refine s1 (v := (.bool (decide (x20.kind = 2)))) (rn_eql (m := x20.kind) (n := 2) rfl rfl) ?_
    refine w_end ?_
    refine c_if (b := (decide (x20.kind = 2))) rfl (fun h32 => ?_) (fun h32 => ?_)
    ·
      have p33 := of_decide_eq_true h32
      refine c_r ?_
      refine s1 (v := (S4.val (suspS (xs.take k14)))) (rn_lbN (vs := (S4.cells (suspS (xs.take k14)))) g34 rfl hb4 rfl rfl) ?_
      refine s1 (v := (ptr b23 0)) (rn_fa fa28_0 rfl rfl) ?_
      refine s1 (v := (i64 x20.of)) (rn_lb1 o3 rfl hb23 rfl) ?_
      refine s_callP e55 (v := (.tuple #[(S4.val (withS (suspS (xs.take k14)) (Int.toNat x20.of))), (i64 0)])) (vs := [(S4.val (suspS (xs.take k14))), (i64 x20.of)]) rfl (With_c (suspS (xs.take k14)) x20.of (by omega) (by omega) _) (fun w34 x35 => ?_)
      replace hE := hE.step0 x35
      replace hR30 := hR30.step0 x35
      replace hb1 := hb1.ext0 x35
      replace hb4 := hb4.ext0 x35
      replace hb11 := hb11.ext0 x35
      replace hb23 := hb23.ext0 x35
      replace hB := hB.ext0 x35
      replace hl10 := hl10.ext0 x35
      clear x35
      refine s1 (v := (.tuple #[(S4.val (withS (suspS (xs.take k14)) (Int.toNat x20.of))), (i64 0)])) (rn_mv rfl) ?_
      refine s1 (v := (S4.val (withS (suspS (xs.take k14)) (Int.toNat x20.of)))) (rn_ex (vs := [(S4.val (withS (suspS (xs.take k14)) (Int.toNat x20.of))), (i64 0)]) rfl rfl) ?_
      refine s1 (v := (i64 0)) (rn_ex (vs := [(S4.val (withS (suspS (xs.take k14)) (Int.toNat x20.of))), (i64 0)]) rfl rfl) ?_
      refine s_st (v := (S4.val (withS (suspS (xs.take k14)) (Int.toNat x20.of)))) (vs := (S4.cells (withS (suspS (xs.take k14)) (Int.toNat x20.of)))) (cs' := (S4.cells (withS (suspS (xs.take k14)) (Int.toNat x20.of)))) g34.2 rfl rfl rfl rfl hb4 (by simp) rfl rfl (fun w36 h_ x37 => ?_)
      replace hE := hE.step1 x37 (by first | (left; simp; done) | (right; omega))
      replace hR30 := hR30.step1 x37 (by first | (left; simp; done) | (right; omega))
      replace hb1 := hb1.ext1 x37 (by omega)
      replace hb11 := hb11.ext1 x37 (by omega)
      replace hb23 := hb23.ext1 x37 (by omega)
      replace hB := hB.ext1 x37 (by omega)
      replace hl10 := hl10.ext1 x37 (by omega)
      clear x37
      replace hb4 := h_; clear h_
      refine w_nil ?_
      refine b_norm ?_
      replace hb4 : Blk w36 b4 34 (S4.cells (suspS (xs.take (k14 + 1)))) := by rw [take_snoc hx21, suspS_snoc, if_pos (of_decide_eq_true h32)]; exact hb4
      exact ⟨[], ⟨rfl, hE, hb1, hb4, hb11, hB, hl10⟩, Rnd.of_ext hR30 hQ31, fun c hc => .inl hc⟩
    ·
      have p38 := of_decide_eq_false h32
      refine c_skip' ?_
      refine b_norm ?_
      replace hb4 : Blk w28 b4 34 (S4.cells (suspS (xs.take (k14 + 1)))) := by rw [take_snoc hx21, suspS_snoc, if_neg (of_decide_eq_false h32)]; exact hb4
      exact ⟨[], ⟨rfl, hE, hb1, hb4, hb11, hB, hl10⟩, Rnd.of_ext hR30 hQ31, fun c hc => .inl hc⟩
  · skip
    clear hE
    clear hb1
    clear hb4
    clear hb11
    clear hB
    clear hl10
    rintro D40 w39 S ⟨rfl, hE, hb1, hb4, hb11, hB, hl10⟩ hD41 hK42 hSN43
    change Dfr w39 D40 at hK42
    refine b_norm ?_
    refine t_norm ?_
    refine c_rs ?_
    refine s1 (v := (S4.val (suspS (xs.take xs.length)))) (rn_lbN (vs := (S4.cells (suspS (xs.take xs.length)))) g34 rfl hb4 rfl rfl) ?_
    refine s_st (v := (S4.val (suspS (xs.take xs.length)))) (vs := (S4.cells (suspS (xs.take xs.length)))) (cs' := (S4.cells (suspS (xs.take xs.length)))) g34.2 rfl rfl rfl rfl hb1 (by simp) rfl rfl (fun w44 h_ x45 => ?_)
    replace hE := hE.step1 x45 (by first | (left; simp; done) | (right; omega))
    replace hb4 := hb4.ext1 x45 (by omega)
    replace hb11 := hb11.ext1 x45 (by omega)
    replace hB := hB.ext1 x45 (by omega)
    replace hl10 := hl10.ext1 x45 (by omega)
    replace hK42 := hK42.ext1 hb1 x45
    clear x45
    replace hb1 := h_; clear h_
    refine w_end ?_
    refine c_ret ?_
    refine bpm_ret hK42 (fun w46 hI47 => ?_)
    replace hE := hE.its hI47 (by omega)
    replace hb1 := hb1.its hI47
    replace hb4 := hb4.its hI47
    replace hb11 := hb11.its hI47
    replace hB := hB.its hI47
    replace hl10 := hl10.its hI47
    refine ⟨_, rs1 rfl (rv_cN (vs := (S4.cells (suspS (xs.take xs.length)))) g34 rfl hb1 rfl rfl), ?_⟩
    exact ⟨by rw [List.take_length], hE⟩

theorem NewBad_c (n self tag : Int) {w0 : World} (hbad : newOkB n self tag = false) :
    Calls Try.prog 53 [(i64 n), (i64 self), (i64 tag)].toArray w0 (Ret (Pu (.tuple #[.pointer none, i64 (newE n self tag)]) w0)) := by
  have hE : Ext [] w0 w0 := (Ext.refl w0).more (by simp)
  refine enter (vs := [(i64 n), (i64 self), (i64 tag)]) Try.func53 rfl Try.ntmps53 rfl ?_
  refine c_rs ?_
  refine s1 (v := (.pointer none)) (rn_as rfl) ?_
  refine s1 (v := (i64 0)) (rn_as rfl) ?_
  refine w_end ?_
  refine c_seq ?_
  refine c_block ?_
  refine c_rs ?_
  refine s1 (v := (i64 n)) (rn_mv rfl) ?_
  refine s1 (v := (.bool (decide (n < 1)))) (rn_lss (m := n) (n := 1) rfl rfl) ?_
  refine s1 (v := (.bool (decide (n < 1)))) (rn_mv rfl) ?_
  rcases Bool.eq_false_or_eq_true (decide (n < 1)) with h1 | h1
  ·
    have p2 := of_decide_eq_true h1
    refine g_not rfl rfl rfl h1 ?_
    refine g_not rfl rfl rfl h1 ?_
    refine s1 (v := (.bool true)) (rn_pT (b := (decide (n < 1))) rfl h1 rfl) ?_
    refine s1 (v := (.bool true)) (rn_as rfl) ?_
    refine w_end ?_
    refine c_T (b := true) rfl rfl ?_
    refine c_rs ?_
    refine s1 (v := (.pointer none)) (rn_as rfl) ?_
    refine s1 (v := (i64 1)) (rn_as rfl) ?_
    refine w_end ?_
    refine c_ret ?_
    refine b_ret ?_
    refine t_ret ?_
    refine bp_ret (rs2 rfl (rv_tmp (v := (.pointer none)) rfl) (rv_tmp (v := (i64 1)) rfl)) ?_
    exact ⟨by unfold newE; rw [if_pos (by omega)], hE⟩
  ·
    have p3 := of_decide_eq_false h1
    refine g_yes rfl rfl rfl h1 ?_
    refine s1 (v := (i64 n)) (rn_mv rfl) ?_
    refine g_yes rfl rfl rfl h1 ?_
    refine s1 (v := (.bool (decide (100 < n)))) (rn_gtr (m := n) (n := 100) rfl rfl) ?_
    refine s1 (v := (.bool (decide (100 < n)))) (rn_pF (b := (decide (n < 1))) rfl h1 rfl) ?_
    refine s1 (v := (.bool (decide (100 < n)))) (rn_as rfl) ?_
    refine w_end ?_
    refine c_if (b := (decide (100 < n))) rfl (fun h4 => ?_) (fun h4 => ?_)
    ·
      have p5 := of_decide_eq_true h4
      refine c_rs ?_
      refine s1 (v := (.pointer none)) (rn_as rfl) ?_
      refine s1 (v := (i64 1)) (rn_as rfl) ?_
      refine w_end ?_
      refine c_ret ?_
      refine b_ret ?_
      refine t_ret ?_
      refine bp_ret (rs2 rfl (rv_tmp (v := (.pointer none)) rfl) (rv_tmp (v := (i64 1)) rfl)) ?_
      exact ⟨by unfold newE; rw [if_pos (by omega)], hE⟩
    ·
      have p6 := of_decide_eq_false h4
      refine c_rs ?_
      refine s1 (v := (i64 self)) (rn_mv rfl) ?_
      refine s1 (v := (.bool (decide (self < 0)))) (rn_lss (m := self) (n := 0) rfl rfl) ?_
      refine s1 (v := (.bool (decide (self < 0)))) (rn_mv rfl) ?_
      rcases Bool.eq_false_or_eq_true (decide (self < 0)) with h7 | h7
      ·
        have p8 := of_decide_eq_true h7
        refine g_not rfl rfl rfl h7 ?_
        refine g_not rfl rfl rfl h7 ?_
        refine g_not rfl rfl rfl h7 ?_
        refine s1 (v := (.bool true)) (rn_pT (b := (decide (self < 0))) rfl h7 rfl) ?_
        refine s1 (v := (.bool true)) (rn_as rfl) ?_
        refine w_end ?_
        refine c_T (b := true) rfl rfl ?_
        refine c_rs ?_
        refine s1 (v := (.pointer none)) (rn_as rfl) ?_
        refine s1 (v := (i64 30)) (rn_as rfl) ?_
        refine w_end ?_
        refine c_ret ?_
        refine b_ret ?_
        refine t_ret ?_
        refine bp_ret (rs2 rfl (rv_tmp (v := (.pointer none)) rfl) (rv_tmp (v := (i64 30)) rfl)) ?_
        exact ⟨by unfold newE; rw [if_neg (by omega), if_pos (by omega)], hE⟩
      ·
        have p9 := of_decide_eq_false h7
        refine g_yes rfl rfl rfl h7 ?_
        refine s1 (v := (i64 self)) (rn_mv rfl) ?_
        refine g_yes rfl rfl rfl h7 ?_
        refine s1 (v := (i64 n)) (rn_mv rfl) ?_
        refine g_yes rfl rfl rfl h7 ?_
        refine s1 (v := (.bool (decide (n ≤ self)))) (rn_geq (m := self) (n := n) rfl rfl) ?_
        refine s1 (v := (.bool (decide (n ≤ self)))) (rn_pF (b := (decide (self < 0))) rfl h7 rfl) ?_
        refine s1 (v := (.bool (decide (n ≤ self)))) (rn_as rfl) ?_
        refine w_end ?_
        refine c_if (b := (decide (n ≤ self))) rfl (fun h10 => ?_) (fun h10 => ?_)
        ·
          have p11 := of_decide_eq_true h10
          refine c_rs ?_
          refine s1 (v := (.pointer none)) (rn_as rfl) ?_
          refine s1 (v := (i64 30)) (rn_as rfl) ?_
          refine w_end ?_
          refine c_ret ?_
          refine b_ret ?_
          refine t_ret ?_
          refine bp_ret (rs2 rfl (rv_tmp (v := (.pointer none)) rfl) (rv_tmp (v := (i64 30)) rfl)) ?_
          exact ⟨by unfold newE; rw [if_neg (by omega), if_pos (by omega)], hE⟩
        ·
          have p12 := of_decide_eq_false h10
          refine c_skip' ?_
          refine b_norm ?_
          refine t_norm ?_
          refine c_rs ?_
          refine s1 (v := (i64 self)) (rn_mv rfl) ?_
          refine s1 (v := (i64 tag)) (rn_mv rfl) ?_
          refine s1 (v := (N3.val (N3.mk self tag 1))) (bd28_0_1_2 rfl rfl rfl ) ?_
          refine s_alloc (cs := [(i64 0), (i64 0), (i64 0)]) z28 rfl (fun b13 w14 hb13 gb13 x15 => ?_)
          have nb13_hE : w0.heap.size ≤ b13 := Nat.le_trans hE.size gb13
          clear gb13
          replace hE := hE.step0 x15
          clear x15
          refine s_st (v := (N3.val (N3.mk self tag 1))) (vs := (N3.cells (N3.mk self tag 1))) (cs' := (N3.cells (N3.mk self tag 1))) g28.2 rfl rfl rfl rfl hb13 (by simp) rfl rfl (fun w16 h_ x17 => ?_)
          replace hE := hE.step1 x17 (by first | (left; simp; done) | (right; omega))
          clear x17
          replace hb13 := h_; clear h_
          refine w_end ?_
          refine c_seq ?_
          refine c_rs ?_
          refine s1 (v := (i64 n)) (rn_mv rfl) ?_
          refine s1 (v := (N3.val (N3.mk self tag 1))) (rn_lbN (vs := (N3.cells (N3.mk self tag 1))) g28 rfl hb13 rfl rfl) ?_
          refine s_callP e70 (v := (.bool (validB n (N3.mk self tag 1)))) (vs := [(i64 n), (N3.val (N3.mk self tag 1))]) rfl (Valid_c n (N3.mk self tag 1) _) (fun w18 x19 => ?_)
          replace hE := hE.step0 x19
          replace hb13 := hb13.ext0 x19
          clear x19
          refine s1 (v := (.bool (!(validB n (N3.mk self tag 1))))) (rn_not (b := (validB n (N3.mk self tag 1))) rfl) ?_
          refine w_end ?_
          refine c_if (b := (!(validB n (N3.mk self tag 1)))) rfl (fun h20 => ?_) (fun h20 => ?_)
          ·
            have h21 := not_t h20
            refine c_rs ?_
            refine s1 (v := (.pointer none)) (rn_as rfl) ?_
            refine s1 (v := (i64 50)) (rn_as rfl) ?_
            refine w_end ?_
            refine c_ret ?_
            refine t_ret ?_
            refine bp_ret (rs2 rfl (rv_tmp (v := (.pointer none)) rfl) (rv_tmp (v := (i64 50)) rfl)) ?_
            exact ⟨by unfold newE; rw [if_neg (by omega), if_neg (by omega)], hE⟩
          ·
            have h22 := not_f h20
            have p23 := validB_t h22
            exact absurd (h20) (by intro h_; have h2_ := validB_t (not_f h_); have h3_ := h2_.1; have h4_ := h2_.2.1; simp only [newOkB, h4_] at hbad; simp at hbad; omega)

end Go.Proofs.Ytfdffeameoejfaa
