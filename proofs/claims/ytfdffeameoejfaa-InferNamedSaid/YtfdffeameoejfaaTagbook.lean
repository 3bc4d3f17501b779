/- tagbook: printed walks. -/
import Derived.Test.YtfdffeameoejfaaBooks
import Derived.Test.YtfdffeameoejfaaNotice
namespace Go.Proofs.Ytfdffeameoejfaa
open Go Go.RowKit
set_option linter.unusedVariables false
set_option linter.unusedSimpArgs false

theorem bd28_0_1_2 {M : Nat} {l : Nat → Value} {w : World} {d : Option Tmp} {t : TypeId} {p : String} {af : Array Edge} {g : Option (Nat × Bool)} {x0 x1 x2 : Operand} {a0 : Int} {a1 : Int} {a2 : Int} (h0 : ev M l x0 = (.int .i64 a0)) (h1 : ev M l x1 = (.int .i64 a1)) (h2 : ev M l x2 = (.int .i64 a2)) :
    Rn Try.prog M l w d (.build 28 #[(0, x0), (1, x1), (2, x2)]) t p af g (.agg #[(.int .i64 a0), (.int .i64 a1), (.int .i64 a2)]) := by
  have hb : (Instr.build 28 #[(0, (.int .i64 a0)), (1, (.int .i64 a1)), (2, (.int .i64 a2))]).run Try.prog w = .ok (.agg #[(.int .i64 a0), (.int .i64 a1), (.int .i64 a2)]) w := by kernel_rfl
  simp [Rn, execOp, h0, h1, h2, hb]

theorem bd123_0 {M : Nat} {l : Nat → Value} {w : World} {d : Option Tmp} {t : TypeId} {p : String} {af : Array Edge} {g : Option (Nat × Bool)} {x0 : Operand} {a0A : Option Addr} {a0n a0c : Nat} (h0 : ev M l x0 = (.slice a0A a0n a0c)) :
    Rn Try.prog M l w d (.build 123 #[(0, x0)]) t p af g (.agg #[(.slice a0A a0n a0c)]) := by
  have hb : (Instr.build 123 #[(0, (.slice a0A a0n a0c))]).run Try.prog w = .ok (.agg #[(.slice a0A a0n a0c)]) w := by kernel_rfl
  simp [Rn, execOp, h0, hb]

theorem list_c {p : Nat} {A : Option Addr} {n c : Nat} {w0 : World} (hp : Blk w0 p 123 [.slice A n c]) :
    Calls Try.prog 98 [(ptr p 0)].toArray w0 (Ret (Pu (.slice A n c) w0)) := by
  have hE : Ext [] w0 w0 := (Ext.refl w0).more (by simp)
  refine enter (vs := [(ptr p 0)]) Try.func98 rfl Try.ntmps98 rfl ?_
  refine c_rs ?_
  refine s1 (v := (.slice none 0 0)) (rn_as rfl) ?_
  refine w_end ?_
  refine c_seq ?_
  refine c_rs ?_
  refine s1 (v := (ptr p 0)) (rn_mv rfl) ?_
  refine s1 (v := (.bool false)) (rn_nilPt (A := some ⟨p, 0, none⟩) Try.underlying25 rfl) ?_
  refine w_end ?_
  refine c_F (b := false) rfl rfl ?_
  refine c_skip' ?_
  refine t_norm ?_
  refine c_rs ?_
  refine s1 (v := (ptr p 0)) (rn_mv rfl) ?_
  refine s1 (v := (ptr p 0)) (rn_nil rfl) ?_
  refine s1 (v := (ptr p 0)) (rn_fa fa123_0 rfl rfl) ?_
  refine s1 (v := (.slice A n c)) (rn_lb1 o22 rfl hp rfl) ?_
  refine s1 (v := (.slice A n c)) (rn_as rfl) ?_
  refine w_end ?_
  refine c_ret ?_
  refine bp_ret (rs1 rfl (rv_tmp (v := (.slice A n c)) rfl)) ?_
  exact ⟨rfl, hE⟩

theorem Size_c {p b : Nat} {xs : List N3} {w0 : World} (hB : Bk w0 p b xs) :
    Calls Try.prog 69 [(ptr p 0)].toArray w0 (Ret (Pu (i64 (xs.length : Int)) w0)) := by
  have hE : Ext [] w0 w0 := (Ext.refl w0).more (by simp)
  have hnep := hB.ne
  obtain ⟨cp, restp, hpp, hrp⟩ := hB
  have hltp := hpp.lt
  have hlbp := hrp.lt
  have hlsp : Ls N3.cells 3 w0 b (some ⟨b, 0, none⟩) xs := Ls.of_blk (fun _ => rfl) hrp
  refine enter (vs := [(ptr p 0)]) Try.func69 rfl Try.ntmps69 rfl ?_
  refine c_rs ?_
  refine s1 (v := (i64 0)) (rn_as rfl) ?_
  refine w_end ?_
  refine c_rs ?_
  refine s1 (v := (ptr p 0)) (rn_mv rfl) ?_
  refine s_callP e98 (v := (.slice (some ⟨b, 0, none⟩) xs.length cp)) (vs := [(ptr p 0)]) rfl (list_c hpp) (fun w1 x2 => ?_)
  replace hE := hE.step0 x2
  replace hpp := hpp.ext0 x2
  replace hrp := hrp.ext0 x2
  replace hlsp := hlsp.ext0 x2
  clear x2
  refine s1 (v := (i64 (xs.length : Int))) (rn_len is22 rfl) ?_
  refine s1 (v := (i64 (xs.length : Int))) (rn_as rfl) ?_
  refine w_end ?_
  refine c_ret ?_
  refine bp_ret (rs1 rfl (rv_tmp (v := (i64 (xs.length : Int))) rfl)) ?_
  exact ⟨rfl, hE⟩

theorem At_c {p b : Nat} {xs : List N3} {w0 : World} (hB : Bk w0 p b xs) (i : Int) (h0 : 0 ≤ i) (h1 : i < xs.length) :
    Calls Try.prog 22 [(ptr p 0), (i64 i)].toArray w0 (Ret (Pu (.tuple #[N3.val (xs[i.toNat]?.getD default), i64 0]) w0)) := by
  have hE : Ext [] w0 w0 := (Ext.refl w0).more (by simp)
  have hnep := hB.ne
  obtain ⟨cp, restp, hpp, hrp⟩ := hB
  have hltp := hpp.lt
  have hlbp := hrp.lt
  have hlsp : Ls N3.cells 3 w0 b (some ⟨b, 0, none⟩) xs := Ls.of_blk (fun _ => rfl) hrp
  refine enter (vs := [(ptr p 0), (i64 i)]) Try.func22 rfl Try.ntmps22 rfl ?_
  refine c_rs ?_
  refine s_alloc (cs := [(i64 0), (i64 0), (i64 0)]) z28 rfl (fun b1 w2 hb1 gb1 x3 => ?_)
  have nb1_hE : w0.heap.size ≤ b1 := Nat.le_trans hE.size gb1
  clear gb1
  replace hE := hE.step0 x3
  replace hpp := hpp.ext0 x3
  replace hrp := hrp.ext0 x3
  replace hlsp := hlsp.ext0 x3
  clear x3
  refine s1 (v := (i64 0)) (rn_as rfl) ?_
  refine w_end ?_
  refine c_seq ?_
  refine c_rs ?_
  refine s1 (v := (i64 i)) (rn_mv rfl) ?_
  refine s1 (v := (.bool (decide (i < 0)))) (rn_lss (m := i) (n := 0) rfl rfl) ?_
  refine s1 (v := (.bool (decide (i < 0)))) (rn_mv rfl) ?_
  refine g_yes rfl rfl rfl (decide_eq_false (by omega)) ?_
  refine s1 (v := (i64 i)) (rn_mv rfl) ?_
  refine g_yes rfl rfl rfl (decide_eq_false (by omega)) ?_
  refine s1 (v := (ptr p 0)) (rn_mv rfl) ?_
  refine g_yes rfl rfl rfl (decide_eq_false (by omega)) ?_
  refine s_callP e69 (v := (i64 (xs.length : Int))) (vs := [(ptr p 0)]) rfl (Size_c ⟨_, _, hpp, hrp⟩) (fun w4 x5 => ?_)
  replace hE := hE.step0 x5
  replace hpp := hpp.ext0 x5
  replace hb1 := hb1.ext0 x5
  replace hrp := hrp.ext0 x5
  replace hlsp := hlsp.ext0 x5
  clear x5
  refine g_yes rfl rfl rfl (decide_eq_false (by omega)) ?_
  refine s1 (v := (.bool (decide ((xs.length : Int) ≤ i)))) (rn_geq (m := i) (n := (xs.length : Int)) rfl rfl) ?_
  refine s1 (v := (.bool (decide ((xs.length : Int) ≤ i)))) (rn_pF (b := (decide (i < 0))) rfl (decide_eq_false (by omega)) rfl) ?_
  refine w_end ?_
  refine c_F (b := (decide ((xs.length : Int) ≤ i))) rfl (decide_eq_false (by omega)) ?_
  refine c_skip' ?_
  refine t_norm ?_
  refine c_rs ?_
  refine s1 (v := (ptr p 0)) (rn_mv rfl) ?_
  refine s1 (v := (ptr p 0)) (rn_nil rfl) ?_
  refine s1 (v := (ptr p 0)) (rn_fa fa123_0 rfl rfl) ?_
  refine s1 (v := (.slice (some ⟨b, 0, none⟩) xs.length cp)) (rn_lb1 o22 rfl hpp rfl) ?_
  refine s1 (v := (i64 i)) (rn_mv rfl) ?_
  obtain ⟨x6, o7, hx8, hA9, el10⟩ := hlsp.el (k := (i).toNat) (by omega)
  refine s1 (v := (ptr b (o7 + (i).toNat * 3))) (rn_ie is22 rfl hA9 rfl (by omega) (by omega) rfl) ?_
  refine s1 (v := (N3.val x6)) (rn_ldN (vs := (N3.cells x6)) g28 rfl rfl el10) ?_
  refine s_st (v := (N3.val x6)) (vs := (N3.cells x6)) (cs' := (N3.cells x6)) g28.2 rfl rfl rfl rfl hb1 (by simp) rfl rfl (fun w11 h_ x12 => ?_)
  replace hE := hE.step1 x12 (by first | (left; simp; done) | (right; omega))
  replace hpp := hpp.ext1 x12 (by omega)
  replace el10 := el10.ext1 x12 (by omega)
  replace hrp := hrp.ext1 x12 (by omega)
  replace hlsp := hlsp.ext1 x12 (by omega)
  clear x12
  replace hb1 := h_; clear h_
  refine s1 (v := (i64 0)) (rn_as rfl) ?_
  refine w_end ?_
  refine c_ret ?_
  refine bp_ret (rs2 rfl (rv_cN (vs := (N3.cells x6)) g28 rfl hb1 rfl rfl) (rv_tmp (v := (i64 0)) rfl)) ?_
  exact ⟨by rw [getD_of hx8], hE⟩

theorem Take_c {p b : Nat} {xs : List N3} {w0 : World} (hB : Bk w0 p b xs) (x : N3) :
    Calls Try.prog 47 [(ptr p 0), (N3.val x)].toArray w0 (Ret (fun v w' => v = .tuple #[.bool (takes xs x), i64 (takeE xs x)] ∧ Bk w' p b (take1 xs x) ∧ Ext [b] w0 w')) := by
  have hE : Ext [b] w0 w0 := (Ext.refl w0).more (by simp)
  have hnep := hB.ne
  obtain ⟨cp, restp, hpp, hrp⟩ := hB
  have hltp := hpp.lt
  have hlbp := hrp.lt
  have hlsp : Ls N3.cells 3 w0 b (some ⟨b, 0, none⟩) xs := Ls.of_blk (fun _ => rfl) hrp
  refine enter (vs := [(ptr p 0), (N3.val x)]) Try.func47 rfl Try.ntmps47 rfl ?_
  refine c_rs ?_
  refine s_box (v := (N3.val x)) (cs := (N3.cells x)) rfl rfl (fun b1 w2 hb1 gb1 x3 => ?_)
  have nb1_hE : w0.heap.size ≤ b1 := Nat.le_trans hE.size gb1
  clear gb1
  replace hE := hE.step0 x3
  replace hpp := hpp.ext0 x3
  replace hrp := hrp.ext0 x3
  replace hlsp := hlsp.ext0 x3
  clear x3
  refine s1 (v := (.bool false)) (rn_as rfl) ?_
  refine s1 (v := (i64 0)) (rn_as rfl) ?_
  refine w_end ?_
  refine c_seq ?_
  refine c_seq ?_
  refine c_dr (n := 5) [.c (ptr p 0), .c (i64 (xs.length : Int)), .c (N3.val x), .c (.bool (validB (xs.length : Int) x)), .c (.bool (!(validB (xs.length : Int) x)))] rfl mixed (by kernel_rfl) ?_
  refine q_v (v := (ptr p 0)) (fun W hC => rn_mv rfl) ?_
  refine q_call e69 (v := (i64 (xs.length : Int))) (vs := [(ptr p 0)]) rfl (fun W hC => Size_c ⟨_, _, (hpp.ext0 hC), (hrp.ext0 hC)⟩) ?_
  refine q_v (v := (N3.val x)) (fun W hC => rn_lbN (vs := (N3.cells x)) g28 rfl (hb1.ext0 hC) rfl rfl) ?_
  refine q_call e70 (v := (.bool (validB (xs.length : Int) x))) (vs := [(i64 (xs.length : Int)), (N3.val x)]) rfl (fun W hC => Valid_c (xs.length : Int) x _) ?_
  refine q_v (v := (.bool (!(validB (xs.length : Int) x)))) (fun W hC => rn_not (b := (validB (xs.length : Int) x)) rfl) ?_
  refine ob_end (fun w4 x5 he6 hap7 => ?_)
  replace hE := hE.step0 x5
  replace hpp := hpp.ext0 x5
  replace hb1 := hb1.ext0 x5
  replace hrp := hrp.ext0 x5
  replace hlsp := hlsp.ext0 x5
  clear x5
  refine w_end ?_
  refine c_if (b := (!(validB (xs.length : Int) x))) rfl (fun h8 => ?_) (fun h8 => ?_)
  ·
    have h9 := not_t h8
    refine c_rs ?_
    refine s1 (v := (.bool false)) (rn_as rfl) ?_
    refine s1 (v := (i64 50)) (rn_as rfl) ?_
    refine w_end ?_
    refine c_ret ?_
    refine t_ret ?_
    refine bp_ret (rs2 rfl (rv_tmp (v := (.bool false)) rfl) (rv_tmp (v := (i64 50)) rfl)) ?_
    have e1 : takes xs x = false := by simp [takes, h9]
    exact ⟨by simp [e1, takeE, h9], by rw [take1, e1]; exact ⟨_, _, hpp, hrp⟩, hE⟩
  ·
    have h10 := not_f h8
    have p11 := validB_t h10
    refine c_skip' ?_
    refine t_norm ?_
    refine c_seq ?_
    obtain ⟨x12, o13, hx14, hA15, el16⟩ := hlsp.el (k := (x.of).toNat) (by omega)
    refine c_seq ?_
    refine c_dr (n := 11) [.c (N3.val x), .c (ptr p 0), .c (ptr p 0), .c (ptr p 0), .c (.slice (some ⟨b, 0, none⟩) xs.length cp), .c (ptr b1 0), .c (i64 x.of), .c (ptr b (o13 + (x.of).toNat * 3)), .c (N3.val x12), .c (.bool (beats x x12)), .c (.bool (!(beats x x12)))] rfl mixed (by kernel_rfl) ?_
    refine q_v (v := (N3.val x)) (fun W hC => rn_lbN (vs := (N3.cells x)) g28 rfl (hb1.ext0 hC) rfl rfl) ?_
    refine q_v (v := (ptr p 0)) (fun W hC => rn_mv rfl) ?_
    refine q_v (v := (ptr p 0)) (fun W hC => rn_nil rfl) ?_
    refine q_v (v := (ptr p 0)) (fun W hC => rn_fa fa123_0 rfl rfl) ?_
    refine q_v (v := (.slice (some ⟨b, 0, none⟩) xs.length cp)) (fun W hC => rn_lb1 o22 rfl (hpp.ext0 hC) rfl) ?_
    refine q_v (v := (ptr b1 0)) (fun W hC => rn_fa fa28_0 rfl rfl) ?_
    refine q_v (v := (i64 x.of)) (fun W hC => rn_lb1 o3 rfl (hb1.ext0 hC) rfl) ?_
    refine q_v (v := (ptr b (o13 + (x.of).toNat * 3))) (fun W hC => rn_ie is22 rfl hA15 rfl (by omega) (by omega) rfl) ?_
    refine q_v (v := (N3.val x12)) (fun W hC => rn_ldN (vs := (N3.cells x12)) g28 rfl rfl (el16.ext0 hC)) ?_
    refine q_call e24 (v := (.bool (beats x x12))) (vs := [(N3.val x), (N3.val x12)]) rfl (fun W hC => Beats_c x x12 _) ?_
    refine q_v (v := (.bool (!(beats x x12)))) (fun W hC => rn_not (b := (beats x x12)) rfl) ?_
    refine ob_end (fun w17 x18 he19 hap20 => ?_)
    replace hE := hE.step0 x18
    replace hpp := hpp.ext0 x18
    replace hb1 := hb1.ext0 x18
    replace el16 := el16.ext0 x18
    replace hrp := hrp.ext0 x18
    replace hlsp := hlsp.ext0 x18
    clear x18
    refine w_end ?_
    refine c_if (b := (!(beats x x12))) rfl (fun h21 => ?_) (fun h21 => ?_)
    ·
      have h22 := not_t h21
      refine c_rs ?_
      refine s1 (v := (.bool false)) (rn_as rfl) ?_
      refine s1 (v := (i64 0)) (rn_as rfl) ?_
      refine w_end ?_
      refine c_ret ?_
      refine t_ret ?_
      refine bp_ret (rs2 rfl (rv_tmp (v := (.bool false)) rfl) (rv_tmp (v := (i64 0)) rfl)) ?_
      have e1 : takes xs x = false := by simp [takes, h10, getD_of hx14, h22]
      exact ⟨by simp [e1, takeE, h10], by rw [take1, e1]; exact ⟨_, _, hpp, hrp⟩, hE⟩
    ·
      have h23 := not_f h21
      have p24 := id h23
      refine c_skip' ?_
      refine t_norm ?_
      refine c_seq ?_
      refine c_dr (n := 8) [.c (ptr p 0), .c (ptr p 0), .c (ptr p 0), .c (.slice (some ⟨b, 0, none⟩) xs.length cp), .c (ptr b1 0), .c (i64 x.of), .c (N3.val x), .c (ptr b (o13 + (x.of).toNat * 3))] rfl mixed (by kernel_rfl) ?_
      refine q_v (v := (ptr p 0)) (fun W hC => rn_mv rfl) ?_
      refine q_v (v := (ptr p 0)) (fun W hC => rn_nil rfl) ?_
      refine q_v (v := (ptr p 0)) (fun W hC => rn_fa fa123_0 rfl rfl) ?_
      refine q_v (v := (.slice (some ⟨b, 0, none⟩) xs.length cp)) (fun W hC => rn_lb1 o22 rfl (hpp.ext0 hC) rfl) ?_
      refine q_v (v := (ptr b1 0)) (fun W hC => rn_fa fa28_0 rfl rfl) ?_
      refine q_v (v := (i64 x.of)) (fun W hC => rn_lb1 o3 rfl (hb1.ext0 hC) rfl) ?_
      refine q_v (v := (N3.val x)) (fun W hC => rn_lbN (vs := (N3.cells x)) g28 rfl (hb1.ext0 hC) rfl rfl) ?_
      refine q_v (v := (ptr b (o13 + (x.of).toNat * 3))) (fun W hC => rn_ie is22 rfl hA15 rfl (by omega) (by omega) rfl) ?_
      refine ob_end (fun w25 x26 he27 hap28 => ?_)
      replace hE := hE.step0 x26
      replace hpp := hpp.ext0 x26
      replace hb1 := hb1.ext0 x26
      replace el16 := el16.ext0 x26
      replace hrp := hrp.ext0 x26
      replace hlsp := hlsp.ext0 x26
      clear x26
      have ho31 : o13 = 0 := by cases hA15; rfl
      refine s_st (v := (N3.val x)) (vs := (N3.cells x)) (cs' := (xs.set x.of.toNat x).flatMap N3.cells ++ restp) g28.2 rfl rfl rfl rfl hrp (by rw [List.length_append, flat3]; omega) rfl (by rw [ho31, Nat.zero_add]; exact set3 _ _ _ _ (by omega)) (fun w29 h_ x30 => ?_)
      replace hE := hE.step1 x30 (by first | (left; simp; done) | (right; omega))
      replace hpp := hpp.ext1 x30 (by omega)
      replace hb1 := hb1.ext1 x30 (by omega)
      clear x30
      replace hrp := h_; clear h_
      replace hlsp : Ls N3.cells 3 w29 b (some ⟨b, 0, none⟩) (xs.set x.of.toNat x) := Ls.of_blk (fun _ => rfl) hrp
      refine w_end ?_
      refine c_rs ?_
      refine s1 (v := (.bool true)) (rn_as rfl) ?_
      refine s1 (v := (i64 0)) (rn_as rfl) ?_
      refine w_end ?_
      refine c_ret ?_
      refine bp_ret (rs2 rfl (rv_tmp (v := (.bool true)) rfl) (rv_tmp (v := (i64 0)) rfl)) ?_
      have e1 : takes xs x = true := by simp [takes, h10, getD_of hx14, h23]
      exact ⟨by simp [e1, takeE, h10], by rw [take1, e1, if_pos rfl]; exact ⟨_, _, by rw [List.length_set]; exact hpp, hrp⟩, hE⟩

theorem Merge1_c {p b q1 q8 : Nat} {xs : List N3} {s : S4} {w0 : World} (hB : Bk w0 p b xs) (hq1 : Blk w0 q1 25 [ptr p 0]) (hq8 : Blk w0 q8 34 (S4.cells s)) (d1 : q1 ≠ b) (d8 : q8 ≠ b) (d18 : q1 ≠ q8) (dp : p ≠ q8) (x : N3) (hx0 : 0 ≤ x.of) (hx1 : x.of < 100) :
    Calls Try.prog 116 [(N3.val x), (ptr q1 0), (ptr q8 0)].toArray w0 (Ret (fun v w' => v = .tuple #[] ∧ Blk w' q8 34 (S4.cells (if takes xs x then withS s x.of.toNat else s)) ∧ Bk w' p b (take1 xs x) ∧ Ext [b, q8] w0 w')) := by
  have hE : Ext [b, q8] w0 w0 := (Ext.refl w0).more (by simp)
  have hltp := hB.ltp
  have hlbp := hB.ltb
  have hl1 := hq1.lt
  have hl8 := hq8.lt
  refine enter (vs := [(N3.val x), (ptr q1 0), (ptr q8 0)]) Try.func116 rfl Try.ntmps116 rfl ?_
  refine c_rs ?_
  refine s_box (v := (N3.val x)) (cs := (N3.cells x)) rfl rfl (fun b1 w2 hb1 gb1 x3 => ?_)
  have nb1_hE : w0.heap.size ≤ b1 := Nat.le_trans hE.size gb1
  clear gb1
  replace hE := hE.step0 x3
  replace hq1 := hq1.ext0 x3
  replace hq8 := hq8.ext0 x3
  replace hB := hB.ext0 x3
  clear x3
  refine w_end ?_
  refine c_rs ?_
  refine s1 (v := (ptr p 0)) (rn_lb1 o25 rfl hq1 rfl) ?_
  refine s1 (v := (N3.val x)) (rn_lbN (vs := (N3.cells x)) g28 rfl hb1 rfl rfl) ?_
  refine s_call e47 (vs := [(ptr p 0), (N3.val x)]) rfl (Take_c hB x) ?_
  rintro _ w4 ⟨rfl, hB5, x6⟩
  replace hE := hE.step1 x6 (by first | (left; simp; done) | (right; omega))
  replace hq1 := hq1.ext1 x6 (by omega)
  replace hq8 := hq8.ext1 x6 (by omega)
  replace hb1 := hb1.ext1 x6 (by omega)
  clear x6
  replace hB := hB5; clear hB5
  refine s1 (v := (.tuple #[(.bool (takes xs x)), (i64 (takeE xs x))])) (rn_mv rfl) ?_
  refine s1 (v := (.bool (takes xs x))) (rn_ex (vs := [(.bool (takes xs x)), (i64 (takeE xs x))]) rfl rfl) ?_
  refine s1 (v := (i64 (takeE xs x))) (rn_ex (vs := [(.bool (takes xs x)), (i64 (takeE xs x))]) rfl rfl) ?_
  refine s1 (v := (.bool (takes xs x))) (rn_as rfl) ?_
  refine s1 (v := (i64 (takeE xs x))) (rn_as rfl) ?_
  refine w_end ?_
  refine c_rs ?_
  refine s1 (v := (.bool (takes xs x))) (rn_mv rfl) ?_
  refine w_end ?_
  refine c_if (b := (takes xs x)) rfl (fun h7 => ?_) (fun h7 => ?_)
  ·
    refine c_r ?_
    refine s1 (v := (S4.val s)) (rn_lbN (vs := (S4.cells s)) g34 rfl hq8 rfl rfl) ?_
    refine s1 (v := (ptr b1 0)) (rn_fa fa28_0 rfl rfl) ?_
    refine s1 (v := (i64 x.of)) (rn_lb1 o3 rfl hb1 rfl) ?_
    refine s_callP e55 (v := (.tuple #[(S4.val (withS s (Int.toNat x.of))), (i64 0)])) (vs := [(S4.val s), (i64 x.of)]) rfl (With_c s x.of (by omega) (by omega) _) (fun w8 x9 => ?_)
    replace hE := hE.step0 x9
    replace hq1 := hq1.ext0 x9
    replace hq8 := hq8.ext0 x9
    replace hb1 := hb1.ext0 x9
    replace hB := hB.ext0 x9
    clear x9
    refine s1 (v := (.tuple #[(S4.val (withS s (Int.toNat x.of))), (i64 0)])) (rn_mv rfl) ?_
    refine s1 (v := (S4.val (withS s (Int.toNat x.of)))) (rn_ex (vs := [(S4.val (withS s (Int.toNat x.of))), (i64 0)]) rfl rfl) ?_
    refine s1 (v := (i64 0)) (rn_ex (vs := [(S4.val (withS s (Int.toNat x.of))), (i64 0)]) rfl rfl) ?_
    refine s_st (v := (S4.val (withS s (Int.toNat x.of)))) (vs := (S4.cells (withS s (Int.toNat x.of)))) (cs' := (S4.cells (withS s (Int.toNat x.of)))) g34.2 rfl rfl rfl rfl hq8 (by simp) rfl rfl (fun w10 h_ x11 => ?_)
    replace hE := hE.step1 x11 (by first | (left; simp; done) | (right; omega))
    replace hq1 := hq1.ext1 x11 (by omega)
    replace hb1 := hb1.ext1 x11 (by omega)
    replace hB := hB.ext1 x11 (by omega)
    clear x11
    replace hq8 := h_; clear h_
    refine w_nil ?_
    refine bp_end (rs0 rfl) ?_
    exact ⟨rfl, by simp only [h7]; exact by simpa using hq8, hB, hE⟩
  ·
    refine c_skip' ?_
    refine bp_end (rs0 rfl) ?_
    exact ⟨rfl, by simp only [h7]; exact by simpa using hq8, hB, hE⟩

theorem Merge_c {p b : Nat} {xs : List N3} {w0 : World} (hB : Bk w0 p b xs) {A : Option Addr} {gl c : Nat} {l : List N3} (hl : Ls N3.cells 3 w0 gl A l) (hn : xs.length ≤ 100) (hll : l.length ≤ 1000000) (hgb : gl ≠ b ∨ l.length = 0) (hgl : gl < w0.heap.size ∨ l.length = 0) :
    Calls Try.prog 65 [(ptr p 0), (.slice A l.length c)].toArray w0 (Ret (fun v w' => v = .tuple #[S4.val (mergeS xs l), i64 (mergeE xs l)] ∧ Bk w' p b (mergeR xs l) ∧ Ext [b] w0 w')) := by
  have hE : Ext [b] w0 w0 := (Ext.refl w0).more (by simp)
  have hltp := hB.ltp
  have hlbp := hB.ltb
  refine enter (vs := [(ptr p 0), (.slice A l.length c)]) Try.func65 rfl Try.ntmps65 rfl ?_
  refine c_rs ?_
  refine s_box (v := (ptr p 0)) (cs := [(ptr p 0)]) rfl rfl (fun b1 w2 hb1 gb1 x3 => ?_)
  have nb1_hE : w0.heap.size ≤ b1 := Nat.le_trans hE.size gb1
  clear gb1
  replace hE := hE.step0 x3
  replace hB := hB.ext0 x3
  replace hl := hl.ext0 x3
  clear x3
  refine s_alloc (cs := [(u32 0), (u32 0), (u32 0), (u32 0)]) z34 rfl (fun b4 w5 hb4 gb4 x6 => ?_)
  have nb4_hE : w0.heap.size ≤ b4 := Nat.le_trans hE.size gb4
  have ob4 : b1 < b4 := Nat.lt_of_lt_of_le hb1.lt gb4
  clear gb4
  replace hE := hE.step0 x6
  replace hb1 := hb1.ext0 x6
  replace hB := hB.ext0 x6
  replace hl := hl.ext0 x6
  clear x6
  refine s1 (v := (i64 0)) (rn_as rfl) ?_
  refine w_end ?_
  refine c_seq ?_
  refine c_rs ?_
  refine s1 (v := (.slice A l.length c)) (rn_mv rfl) ?_
  refine s1 (v := (i64 (l.length : Int))) (rn_len is22 rfl) ?_
  refine s1 (v := (i64 0)) (rn_mv rfl) ?_
  refine w_end ?_
  refine c_block ?_
  refine c_loop (fun d a w => ∃ (k7 : Nat) (z_k7 : Nat → Value) , a = Fr 37 (lk [(ptr p 0), (.slice A l.length c), (ptr b1 0), undef, (ptr b4 0), (z_k7 5), undef, (z_k7 7), undef, undef, undef, undef, (.slice A l.length c), (i64 (l.length : Int)), (i64 (k7 : Int)), (z_k7 15), (z_k7 16), (z_k7 17), (z_k7 18), (z_k7 19), (z_k7 20), (z_k7 21), (z_k7 22), (z_k7 23), (z_k7 24), undef, undef, undef, undef, undef, undef, undef, undef, undef, undef, undef, undef]) [] ∧ d = l.length - k7 ∧ k7 ≤ l.length ∧ Ext [b] w0 w ∧ Blk w b1 25 [(ptr p 0)] ∧ Blk w b4 34 [(u32 0), (u32 0), (u32 0), (u32 0)] ∧ Bk w p b xs ∧ Ls N3.cells 3 w gl A l ∧ allV xs.length (l.take k7) = true) (l.length - 0) ?_ ?_
  · exact ⟨0, (lk [(ptr p 0), (.slice A l.length c), (ptr b1 0), undef, (ptr b4 0), (i64 0), undef, undef, undef, undef, undef, undef, (.slice A l.length c), (i64 (l.length : Int)), (i64 0), undef, undef, undef, undef, undef, undef, undef, undef, undef, undef, undef, undef, undef, undef, undef, undef, undef, undef, undef, undef, undef, undef]), Fr_congr (by kernel_rfl), rfl, Nat.zero_le _, hE, hb1, hb4, hB, hl, rfl⟩
  clear hE
  clear hb1
  clear hb4
  clear hB
  clear hl
  rintro d a w8 ⟨k7, z_k7, rfl, rfl, hlek7, hE, hb1, hb4, hB, hl, hall⟩
  refine c_rs ?_
  refine s1 (v := (.bool (decide ((k7 : Int) < (l.length : Int))))) (rn_lss (m := (k7 : Int)) (n := (l.length : Int)) rfl rfl) ?_
  refine w_end ?_
  refine c_seq ?_
  refine c_if (b := (decide ((k7 : Int) < (l.length : Int)))) rfl (fun h9 => ?_) (fun h9 => ?_)
  ·
    have p10 := of_decide_eq_true h9
    refine c_skip' ?_
    refine t_norm ?_
    refine c_seq ?_
    refine c_block ?_
    refine c_rs ?_
    obtain ⟨x11, o12, hx13, hA14, el15⟩ := hl.el (k := k7) (by omega)
    refine s1 (v := (ptr gl (o12 + k7 * 3))) (rn_ie is22 rfl hA14 rfl (by omega) (by omega) rfl) ?_
    refine s1 (v := (N3.val x11)) (rn_ldN (vs := (N3.cells x11)) g28 rfl rfl el15) ?_
    refine s_alloc (cs := [(i64 0), (i64 0), (i64 0)]) z28 rfl (fun b16 w17 hb16 gb16 x18 => ?_)
    have nb16_hE : w0.heap.size ≤ b16 := Nat.le_trans hE.size gb16
    have ob16 : b4 < b16 := Nat.lt_of_lt_of_le hb4.lt gb16
    clear gb16
    replace hE := hE.step0 x18
    replace hb1 := hb1.ext0 x18
    replace hb4 := hb4.ext0 x18
    replace el15 := el15.ext0 x18
    replace hB := hB.ext0 x18
    replace hl := hl.ext0 x18
    clear x18
    refine s_st (v := (N3.val x11)) (vs := (N3.cells x11)) (cs' := (N3.cells x11)) g28.2 rfl rfl rfl rfl hb16 (by simp) rfl rfl (fun w19 h_ x20 => ?_)
    replace hE := hE.step1 x20 (by first | (left; simp; done) | (right; omega))
    replace hb1 := hb1.ext1 x20 (by omega)
    replace hb4 := hb4.ext1 x20 (by omega)
    replace el15 := el15.ext1 x20 (by omega)
    replace hB := hB.ext1 x20 (by omega)
    replace hl := hl.ext1 x20 (by omega)
    clear x20
    replace hb16 := h_; clear h_
    refine w_end ?_
    refine c_seq ?_
    refine c_dr (n := 5) [.c (ptr p 0), .c (i64 (xs.length : Int)), .c (N3.val x11), .c (.bool (validB (xs.length : Int) x11)), .c (.bool (!(validB (xs.length : Int) x11)))] rfl mixed (by kernel_rfl) ?_
    refine q_v (v := (ptr p 0)) (fun W hC => rn_lb1 o25 rfl (hb1.ext0 hC) rfl) ?_
    refine q_call e69 (v := (i64 (xs.length : Int))) (vs := [(ptr p 0)]) rfl (fun W hC => Size_c (hB.ext0 hC)) ?_
    refine q_v (v := (N3.val x11)) (fun W hC => rn_lbN (vs := (N3.cells x11)) g28 rfl (hb16.ext0 hC) rfl rfl) ?_
    refine q_call e70 (v := (.bool (validB (xs.length : Int) x11))) (vs := [(i64 (xs.length : Int)), (N3.val x11)]) rfl (fun W hC => Valid_c (xs.length : Int) x11 _) ?_
    refine q_v (v := (.bool (!(validB (xs.length : Int) x11)))) (fun W hC => rn_not (b := (validB (xs.length : Int) x11)) rfl) ?_
    refine ob_end (fun w21 x22 he23 hap24 => ?_)
    replace hE := hE.step0 x22
    replace hb1 := hb1.ext0 x22
    replace hb4 := hb4.ext0 x22
    replace hb16 := hb16.ext0 x22
    replace el15 := el15.ext0 x22
    replace hB := hB.ext0 x22
    replace hl := hl.ext0 x22
    clear x22
    refine w_end ?_
    refine c_if (b := (!(validB (xs.length : Int) x11))) rfl (fun h25 => ?_) (fun h25 => ?_)
    ·
      have h26 := not_t h25
      refine c_rs ?_
      refine s1 (v := (S4.val (S4.mk 0 0 0 0))) (bd34_ ) ?_
      refine s_st (v := (S4.val (S4.mk 0 0 0 0))) (vs := (S4.cells (S4.mk 0 0 0 0))) (cs' := (S4.cells (S4.mk 0 0 0 0))) g34.2 rfl rfl rfl rfl hb4 (by simp) rfl rfl (fun w27 h_ x28 => ?_)
      replace hE := hE.step1 x28 (by first | (left; simp; done) | (right; omega))
      replace hb1 := hb1.ext1 x28 (by omega)
      replace hb16 := hb16.ext1 x28 (by omega)
      replace el15 := el15.ext1 x28 (by omega)
      replace hB := hB.ext1 x28 (by omega)
      replace hl := hl.ext1 x28 (by omega)
      clear x28
      replace hb4 := h_; clear h_
      refine s1 (v := (i64 50)) (rn_as rfl) ?_
      refine w_end ?_
      refine c_ret ?_
      refine b_ret ?_
      refine t_ret ?_
      refine t_ret ?_
      refine b_ret ?_
      refine t_ret ?_
      refine bp_ret (rs2 rfl (rv_cN (vs := (S4.cells (S4.mk 0 0 0 0))) g34 rfl hb4 rfl rfl) (rv_tmp (v := (i64 50)) rfl)) ?_
      have ea := allV_of hx13 h26
      exact ⟨by simp only [mergeS, mergeE, ea]; rfl, by rw [mergeR, ea]; exact hB, hE⟩
    ·
      have h29 := not_f h25
      have p30 := validB_t h29
      refine c_skip' ?_
      refine b_norm ?_
      refine t_norm ?_
      refine c_r ?_
      refine s1 (v := (i64 ((k7 : Int) + 1))) (rn_add (m := (k7 : Int)) (n := 1) rfl rfl (wr64 (by omega) (by omega))) ?_
      refine s1 (v := (i64 ((k7 : Int) + 1))) (rn_mv rfl) ?_
      refine w_nil ?_
      refine t_norm ?_
      exact ⟨l.length - (k7 + 1), by omega, k7 + 1, (lk [(ptr p 0), (.slice A l.length c), (ptr b1 0), undef, (ptr b4 0), (z_k7 5), undef, (ptr b16 0), undef, undef, undef, undef, (.slice A l.length c), (i64 (l.length : Int)), (i64 ((k7 : Int) + 1)), (.bool (decide ((k7 : Int) < (l.length : Int)))), (ptr gl (o12 + k7 * 3)), (N3.val x11), (ptr p 0), (i64 (xs.length : Int)), (N3.val x11), (.bool (validB (xs.length : Int) x11)), (.bool (!(validB (xs.length : Int) x11))), (z_k7 23), (i64 ((k7 : Int) + 1)), undef, undef, undef, undef, undef, undef, undef, undef, undef, undef, undef, undef]), Fr_congr (by kernel_rfl), rfl, by omega, hE, hb1, hb4, hB, hl, (by rw [take_snoc hx13, allV_snoc, hall, h29]; rfl)⟩
  ·
    have p31 := of_decide_eq_false h9
    refine c_exit ?_
    refine t_exit ?_
    refine t_exit ?_
    refine b_here ?_
    refine t_norm ?_
    refine c_rs ?_
    refine s_alloc (cs := [(u32 0), (u32 0), (u32 0), (u32 0)]) z34 rfl (fun b32 w33 hb32 gb32 x34 => ?_)
    have nb32_hE : w0.heap.size ≤ b32 := Nat.le_trans hE.size gb32
    have ob32 : b4 < b32 := Nat.lt_of_lt_of_le hb4.lt gb32
    clear gb32
    replace hE := hE.step0 x34
    replace hb1 := hb1.ext0 x34
    replace hb4 := hb4.ext0 x34
    replace hB := hB.ext0 x34
    replace hl := hl.ext0 x34
    clear x34
    refine w_end ?_
    refine c_rs ?_
    refine s1 (v := (.func (.func 116) #[] #[(ptr b1 0), (ptr b32 0)])) (rn_mf (vs := [(ptr b1 0), (ptr b32 0)]) rfl) ?_
    refine s1 (v := (.func (.func 116) #[] #[(ptr b1 0), (ptr b32 0)])) (rn_as rfl) ?_
    refine w_end ?_
    refine c_seq ?_
    refine c_rs ?_
    refine s1 (v := (.slice A l.length c)) (rn_mv rfl) ?_
    refine s1 (v := (i64 (l.length : Int))) (rn_len is22 rfl) ?_
    refine s1 (v := (i64 0)) (rn_mv rfl) ?_
    refine w_end ?_
    refine c_block ?_
    have hkl : k7 = l.length := by omega
    rw [hkl, List.take_length] at hall
    refine c_loop (fun d a w => ∃ (k35 : Nat) (z_k35 : Nat → Value) , a = Fr 37 (lk [(ptr p 0), (.slice A l.length c), (ptr b1 0), undef, (ptr b4 0), (z_k7 5), undef, (z_k7 7), (ptr b32 0), (.func (.func 116) #[] #[(ptr b1 0), (ptr b32 0)]), undef, (z_k35 11), (.slice A l.length c), (i64 (l.length : Int)), (i64 (k7 : Int)), (.bool (decide ((k7 : Int) < (l.length : Int)))), (z_k7 16), (z_k7 17), (z_k7 18), (z_k7 19), (z_k7 20), (z_k7 21), (z_k7 22), (z_k7 23), (z_k7 24), (.func (.func 116) #[] #[(ptr b1 0), (ptr b32 0)]), (.slice A l.length c), (i64 (l.length : Int)), (i64 (k35 : Int)), (z_k35 29), (z_k35 30), (z_k35 31), (z_k35 32), (z_k35 33), (z_k35 34), (z_k35 35), undef]) [] ∧ d = l.length - k35 ∧ k35 ≤ l.length ∧ Ext [b] w0 w ∧ Blk w b1 25 [(ptr p 0)] ∧ Blk w b4 34 [(u32 0), (u32 0), (u32 0), (u32 0)] ∧ Blk w b32 34 (S4.cells ((mfold xs (l.take k35)).2)) ∧ Bk w p b ((mfold xs (l.take k35)).1) ∧ Ls N3.cells 3 w gl A l) (l.length - 0) ?_ ?_
    · exact ⟨0, (lk [(ptr p 0), (.slice A l.length c), (ptr b1 0), undef, (ptr b4 0), (z_k7 5), undef, (z_k7 7), (ptr b32 0), (.func (.func 116) #[] #[(ptr b1 0), (ptr b32 0)]), undef, undef, (.slice A l.length c), (i64 (l.length : Int)), (i64 (k7 : Int)), (.bool (decide ((k7 : Int) < (l.length : Int)))), (z_k7 16), (z_k7 17), (z_k7 18), (z_k7 19), (z_k7 20), (z_k7 21), (z_k7 22), (z_k7 23), (z_k7 24), (.func (.func 116) #[] #[(ptr b1 0), (ptr b32 0)]), (.slice A l.length c), (i64 (l.length : Int)), (i64 0), undef, undef, undef, undef, undef, undef, undef, undef]), Fr_congr (by kernel_rfl), rfl, Nat.zero_le _, hE, hb1, hb4, hb32, hB, hl⟩
    clear hE
    clear hb1
    clear hb4
    clear hb32
    clear hB
    clear hl
    rintro d a w36 ⟨k35, z_k35, rfl, rfl, hlek35, hE, hb1, hb4, hb32, hB, hl⟩
    refine c_rs ?_
    refine s1 (v := (.bool (decide ((k35 : Int) < (l.length : Int))))) (rn_lss (m := (k35 : Int)) (n := (l.length : Int)) rfl rfl) ?_
    refine w_end ?_
    refine c_seq ?_
    refine c_if (b := (decide ((k35 : Int) < (l.length : Int)))) rfl (fun h37 => ?_) (fun h37 => ?_)
    ·
      have p38 := of_decide_eq_true h37
      refine c_skip' ?_
      refine t_norm ?_
      refine c_seq ?_
      refine c_block ?_
      refine c_rs ?_
      obtain ⟨x39, o40, hx41, hA42, el43⟩ := hl.el (k := k35) (by omega)
      refine s1 (v := (ptr gl (o40 + k35 * 3))) (rn_ie is22 rfl hA42 rfl (by omega) (by omega) rfl) ?_
      refine s1 (v := (N3.val x39)) (rn_ldN (vs := (N3.cells x39)) g28 rfl rfl el43) ?_
      refine s_alloc (cs := [(i64 0), (i64 0), (i64 0)]) z28 rfl (fun b44 w45 hb44 gb44 x46 => ?_)
      have nb44_hE : w0.heap.size ≤ b44 := Nat.le_trans hE.size gb44
      have ob44 : b32 < b44 := Nat.lt_of_lt_of_le hb32.lt gb44
      clear gb44
      replace hE := hE.step0 x46
      replace hb1 := hb1.ext0 x46
      replace hb4 := hb4.ext0 x46
      replace hb32 := hb32.ext0 x46
      replace el43 := el43.ext0 x46
      replace hB := hB.ext0 x46
      replace hl := hl.ext0 x46
      clear x46
      refine s_st (v := (N3.val x39)) (vs := (N3.cells x39)) (cs' := (N3.cells x39)) g28.2 rfl rfl rfl rfl hb44 (by simp) rfl rfl (fun w47 h_ x48 => ?_)
      replace hE := hE.step1 x48 (by first | (left; simp; done) | (right; omega))
      replace hb1 := hb1.ext1 x48 (by omega)
      replace hb4 := hb4.ext1 x48 (by omega)
      replace hb32 := hb32.ext1 x48 (by omega)
      replace el43 := el43.ext1 x48 (by omega)
      replace hB := hB.ext1 x48 (by omega)
      replace hl := hl.ext1 x48 (by omega)
      clear x48
      replace hb44 := h_; clear h_
      refine w_end ?_
      refine c_r ?_
      refine s1 (v := (.func (.func 116) #[] #[(ptr b1 0), (ptr b32 0)])) (rn_mv rfl) ?_
      refine s1 (v := (N3.val x39)) (rn_lbN (vs := (N3.cells x39)) g28 rfl hb44 rfl rfl) ?_
      have hp49 := (validB_t (allV_at hx41 hall)).1
      refine s_callv e116 (vs := [(N3.val x39)]) (ws := [(ptr b1 0), (ptr b32 0)]) rfl rfl (Merge1_c hB hb1 hb32 (by omega) (by omega) (by omega) (by omega) x39 (by omega) (by omega)) ?_
      rintro _ w50 ⟨rfl, h51, hB52, x53⟩
      replace hE := hE.step x53 (fun c hc => by simp only [List.mem_cons, List.not_mem_nil, or_false] at hc; rcases hc with rfl | rfl <;> first | (left; simp; done) | (right; omega))
      replace hb1 := hb1.ext x53 (by simp; omega)
      replace hb4 := hb4.ext x53 (by simp; omega)
      replace hb44 := hb44.ext x53 (by simp; omega)
      replace el43 := el43.ext x53 (by simp; omega)
      replace hl := hl.ext x53 (fun hc => by simp at hc; omega)
      clear x53
      replace hB := hB52; clear hB52
      replace hb32 := h51; clear h51
      refine w_nil ?_
      refine b_norm ?_
      refine t_norm ?_
      refine c_r ?_
      refine s1 (v := (i64 ((k35 : Int) + 1))) (rn_add (m := (k35 : Int)) (n := 1) rfl rfl (wr64 (by omega) (by omega))) ?_
      refine s1 (v := (i64 ((k35 : Int) + 1))) (rn_mv rfl) ?_
      refine w_nil ?_
      refine t_norm ?_
      have et := take_snoc hx41
      replace hB : Bk w50 p b (mfold xs (l.take (k35 + 1))).1 := by rw [et, mfold_snoc]; exact hB
      replace hb32 : Blk w50 b32 34 (S4.cells (mfold xs (l.take (k35 + 1))).2) := by rw [et, mfold_snoc]; exact hb32
      exact ⟨l.length - (k35 + 1), by omega, k35 + 1, (lk [(ptr p 0), (.slice A l.length c), (ptr b1 0), undef, (ptr b4 0), (z_k7 5), undef, (z_k7 7), (ptr b32 0), (.func (.func 116) #[] #[(ptr b1 0), (ptr b32 0)]), undef, (ptr b44 0), (.slice A l.length c), (i64 (l.length : Int)), (i64 (k7 : Int)), (.bool (decide ((k7 : Int) < (l.length : Int)))), (z_k7 16), (z_k7 17), (z_k7 18), (z_k7 19), (z_k7 20), (z_k7 21), (z_k7 22), (z_k7 23), (z_k7 24), (.func (.func 116) #[] #[(ptr b1 0), (ptr b32 0)]), (.slice A l.length c), (i64 (l.length : Int)), (i64 ((k35 : Int) + 1)), (.bool (decide ((k35 : Int) < (l.length : Int)))), (ptr gl (o40 + k35 * 3)), (N3.val x39), (.func (.func 116) #[] #[(ptr b1 0), (ptr b32 0)]), (N3.val x39), (.tuple #[]), (i64 ((k35 : Int) + 1)), undef]), Fr_congr (by kernel_rfl), rfl, by omega, hE, hb1, hb4, hb32, hB, hl⟩
    ·
      have p54 := of_decide_eq_false h37
      refine c_exit ?_
      refine t_exit ?_
      refine t_exit ?_
      refine b_here ?_
      refine t_norm ?_
      refine c_rs ?_
      refine s1 (v := (S4.val ((mfold xs (l.take k35)).2))) (rn_lbN (vs := (S4.cells ((mfold xs (l.take k35)).2))) g34 rfl hb32 rfl rfl) ?_
      refine s_st (v := (S4.val ((mfold xs (l.take k35)).2))) (vs := (S4.cells ((mfold xs (l.take k35)).2))) (cs' := (S4.cells ((mfold xs (l.take k35)).2))) g34.2 rfl rfl rfl rfl hb4 (by simp) rfl rfl (fun w55 h_ x56 => ?_)
      replace hE := hE.step1 x56 (by first | (left; simp; done) | (right; omega))
      replace hb1 := hb1.ext1 x56 (by omega)
      replace hb32 := hb32.ext1 x56 (by omega)
      replace hB := hB.ext1 x56 (by omega)
      replace hl := hl.ext1 x56 (by omega)
      clear x56
      replace hb4 := h_; clear h_
      refine s1 (v := (i64 0)) (rn_as rfl) ?_
      refine w_end ?_
      refine c_ret ?_
      refine bp_ret (rs2 rfl (rv_cN (vs := (S4.cells ((mfold xs (l.take k35)).2))) g34 rfl hb4 rfl rfl) (rv_tmp (v := (i64 0)) rfl)) ?_
      obtain rfl : k35 = l.length := by omega
      simp only [List.take_length] at hB
      exact ⟨by simp only [List.take_length, mergeS, mergeE, hall, if_true] <;> rfl, by rw [mergeR, hall, if_pos rfl]; exact hB, hE⟩

theorem New_c {w0 : World} (n : Nat) (self tag : Int) (h1 : 1 ≤ n) (h2 : n ≤ 100) (h3 : 0 ≤ self) (h4 : self < n) (hv : isTagB tag = true) :
    Calls Try.prog 53 [(i64 (n : Int)), (i64 self), (i64 tag)].toArray w0 (Ret (fun v w' => ∃ p b, v = .tuple #[ptr p 0, i64 0] ∧ Bk w' p b (newL n self tag) ∧ w0.heap.size ≤ p ∧ w0.heap.size ≤ b ∧ Ext [] w0 w')) := by
  have hE : Ext [] w0 w0 := (Ext.refl w0).more (by simp)
  have hvv : validB (n : Int) (N3.mk self tag 1) = true := by simp [validB, hv, isKindB]; omega
  refine enter (vs := [(i64 (n : Int)), (i64 self), (i64 tag)]) Try.func53 rfl Try.ntmps53 rfl ?_
  refine c_rs ?_
  refine s1 (v := (.pointer none)) (rn_as rfl) ?_
  refine s1 (v := (i64 0)) (rn_as rfl) ?_
  refine w_end ?_
  refine c_seq ?_
  refine c_block ?_
  refine c_rs ?_
  refine s1 (v := (i64 (n : Int))) (rn_mv rfl) ?_
  refine s1 (v := (.bool (decide ((n : Int) < 1)))) (rn_lss (m := (n : Int)) (n := 1) rfl rfl) ?_
  refine s1 (v := (.bool (decide ((n : Int) < 1)))) (rn_mv rfl) ?_
  refine g_yes rfl rfl rfl (decide_eq_false (by omega)) ?_
  refine s1 (v := (i64 (n : Int))) (rn_mv rfl) ?_
  refine g_yes rfl rfl rfl (decide_eq_false (by omega)) ?_
  refine s1 (v := (.bool (decide (100 < (n : Int))))) (rn_gtr (m := (n : Int)) (n := 100) rfl rfl) ?_
  refine s1 (v := (.bool (decide (100 < (n : Int))))) (rn_pF (b := (decide ((n : Int) < 1))) rfl (decide_eq_false (by omega)) rfl) ?_
  refine s1 (v := (.bool (decide (100 < (n : Int))))) (rn_as rfl) ?_
  refine w_end ?_
  refine c_F (b := (decide (100 < (n : Int)))) rfl (decide_eq_false (by omega)) ?_
  refine c_rs ?_
  refine s1 (v := (i64 self)) (rn_mv rfl) ?_
  refine s1 (v := (.bool (decide (self < 0)))) (rn_lss (m := self) (n := 0) rfl rfl) ?_
  refine s1 (v := (.bool (decide (self < 0)))) (rn_mv rfl) ?_
  refine g_yes rfl rfl rfl (decide_eq_false (by omega)) ?_
  refine s1 (v := (i64 self)) (rn_mv rfl) ?_
  refine g_yes rfl rfl rfl (decide_eq_false (by omega)) ?_
  refine s1 (v := (i64 (n : Int))) (rn_mv rfl) ?_
  refine g_yes rfl rfl rfl (decide_eq_false (by omega)) ?_
  refine s1 (v := (.bool (decide ((n : Int) ≤ self)))) (rn_geq (m := self) (n := (n : Int)) rfl rfl) ?_
  refine s1 (v := (.bool (decide ((n : Int) ≤ self)))) (rn_pF (b := (decide (self < 0))) rfl (decide_eq_false (by omega)) rfl) ?_
  refine s1 (v := (.bool (decide ((n : Int) ≤ self)))) (rn_as rfl) ?_
  refine w_end ?_
  refine c_F (b := (decide ((n : Int) ≤ self))) rfl (decide_eq_false (by omega)) ?_
  refine c_skip' ?_
  refine b_norm ?_
  refine t_norm ?_
  refine c_rs ?_
  refine s1 (v := (i64 self)) (rn_mv rfl) ?_
  refine s1 (v := (i64 tag)) (rn_mv rfl) ?_
  refine s1 (v := (N3.val (N3.mk self tag 1))) (bd28_0_1_2 rfl rfl rfl ) ?_
  refine s_alloc (cs := [(i64 0), (i64 0), (i64 0)]) z28 rfl (fun b1 w2 hb1 gb1 x3 => ?_)
  have nb1_hE : w0.heap.size ≤ b1 := Nat.le_trans hE.size gb1
  clear gb1
  replace hE := hE.step0 x3
  clear x3
  refine s_st (v := (N3.val (N3.mk self tag 1))) (vs := (N3.cells (N3.mk self tag 1))) (cs' := (N3.cells (N3.mk self tag 1))) g28.2 rfl rfl rfl rfl hb1 (by simp) rfl rfl (fun w4 h_ x5 => ?_)
  replace hE := hE.step1 x5 (by first | (left; simp; done) | (right; omega))
  clear x5
  replace hb1 := h_; clear h_
  refine w_end ?_
  refine c_seq ?_
  refine c_rs ?_
  refine s1 (v := (i64 (n : Int))) (rn_mv rfl) ?_
  refine s1 (v := (N3.val (N3.mk self tag 1))) (rn_lbN (vs := (N3.cells (N3.mk self tag 1))) g28 rfl hb1 rfl rfl) ?_
  refine s_callP e70 (v := (.bool (validB (n : Int) (N3.mk self tag 1)))) (vs := [(i64 (n : Int)), (N3.val (N3.mk self tag 1))]) rfl (Valid_c (n : Int) (N3.mk self tag 1) _) (fun w6 x7 => ?_)
  replace hE := hE.step0 x7
  replace hb1 := hb1.ext0 x7
  clear x7
  refine s1 (v := (.bool (!(validB (n : Int) (N3.mk self tag 1))))) (rn_not (b := (validB (n : Int) (N3.mk self tag 1))) rfl) ?_
  refine w_end ?_
  refine c_F (b := (!(validB (n : Int) (N3.mk self tag 1)))) rfl (by rw [hvv]; rfl) ?_
  refine c_skip' ?_
  refine t_norm ?_
  refine c_rs ?_
  refine s1 (v := (i64 (n : Int))) (rn_mv rfl) ?_
  refine s_make (n := n) (cs := (zerosN n).flatMap N3.cells ++ []) et22 rfl rfl (by omega) (by omega) (madeN n) (fun b8 w9 hb8 gb8 x10 => ?_)
  have nb8_hE : w0.heap.size ≤ b8 := Nat.le_trans hE.size gb8
  have ob8 : b1 < b8 := Nat.lt_of_lt_of_le hb1.lt gb8
  clear gb8
  replace hE := hE.step0 x10
  replace hb1 := hb1.ext0 x10
  clear x10
  have hl11 : Ls N3.cells 3 w9 b8 (some ⟨b8, 0, none⟩) (zerosN n) := Ls.of_blk (rest := []) (fun _ => rfl) hb8
  refine s1 (v := (.agg #[(.slice (some ⟨b8, 0, none⟩) n n)])) (bd123_0 rfl ) ?_
  refine s_box (v := (.agg #[(.slice (some ⟨b8, 0, none⟩) n n)])) (cs := [(.slice (some ⟨b8, 0, none⟩) n n)]) rfl rfl (fun b12 w13 hb12 gb12 x14 => ?_)
  have nb12_hE : w0.heap.size ≤ b12 := Nat.le_trans hE.size gb12
  have ob12 : b1 < b12 := Nat.lt_of_lt_of_le hb1.lt gb12
  have ob12_hb8 : b8 < b12 := Nat.lt_of_lt_of_le hb8.lt gb12
  clear gb12
  replace hE := hE.step0 x14
  replace hb1 := hb1.ext0 x14
  replace hb8 := hb8.ext0 x14
  replace hl11 := hl11.ext0 x14
  clear x14
  refine s1 (v := (ptr b12 0)) (rn_as rfl) ?_
  refine w_end ?_
  refine c_seq ?_
  refine c_rs ?_
  refine s1 (v := (ptr b12 0)) (rn_mv rfl) ?_
  refine s1 (v := (ptr b12 0)) (rn_nil rfl) ?_
  refine s1 (v := (ptr b12 0)) (rn_fa fa123_0 rfl rfl) ?_
  refine s1 (v := (.slice (some ⟨b8, 0, none⟩) n n)) (rn_lb1 o22 rfl hb12 rfl) ?_
  refine s1 (v := (i64 (n : Int))) (rn_len is22 rfl) ?_
  refine s1 (v := (i64 0)) (rn_mv rfl) ?_
  refine w_end ?_
  refine c_block ?_
  rw [fillL_zero] at hb8 hl11
  refine c_loop (fun d a w => ∃ (k15 : Nat) (z_k15 : Nat → Value) , a = Fr 62 (lk [(i64 (n : Int)), (i64 self), (i64 tag), undef, undef, undef, (.pointer none), (i64 0), (ptr b1 0), (ptr b12 0), (z_k15 10), (.bool (decide (100 < (n : Int)))), (i64 (n : Int)), (.bool (decide ((n : Int) < 1))), (.bool (decide ((n : Int) < 1))), (i64 (n : Int)), (.bool (decide (100 < (n : Int)))), (.bool (decide (100 < (n : Int)))), (.bool (decide ((n : Int) ≤ self))), (i64 self), (.bool (decide (self < 0))), (.bool (decide (self < 0))), (i64 self), (i64 (n : Int)), (.bool (decide ((n : Int) ≤ self))), (.bool (decide ((n : Int) ≤ self))), (i64 self), (i64 tag), (N3.val (N3.mk self tag 1)), (i64 (n : Int)), (N3.val (N3.mk self tag 1)), (.bool (validB (n : Int) (N3.mk self tag 1))), (.bool (!(validB (n : Int) (N3.mk self tag 1)))), (i64 (n : Int)), (.slice (some ⟨b8, 0, none⟩) n n), (.agg #[(.slice (some ⟨b8, 0, none⟩) n n)]), (ptr b12 0), (ptr b12 0), (ptr b12 0), (ptr b12 0), (.slice (some ⟨b8, 0, none⟩) n n), (i64 (n : Int)), (i64 (k15 : Int)), (z_k15 43), (z_k15 44), (z_k15 45), (z_k15 46), (z_k15 47), (z_k15 48), (z_k15 49), (z_k15 50), (z_k15 51), (z_k15 52), (z_k15 53), undef, undef, undef, undef, undef, undef, undef, undef]) [] ∧ d = n - k15 ∧ k15 ≤ n ∧ Ext [] w0 w ∧ Blk w b1 28 (N3.cells (N3.mk self tag 1)) ∧ Blk w b12 123 [(.slice (some ⟨b8, 0, none⟩) n n)] ∧ Blk w b8 28 (((fillL n k15)).flatMap N3.cells ++ []) ∧ Ls N3.cells 3 w b8 (some ⟨b8, 0, none⟩) (fillL n k15)) (n - 0) ?_ ?_
  · exact ⟨0, (lk [(i64 (n : Int)), (i64 self), (i64 tag), undef, undef, undef, (.pointer none), (i64 0), (ptr b1 0), (ptr b12 0), undef, (.bool (decide (100 < (n : Int)))), (i64 (n : Int)), (.bool (decide ((n : Int) < 1))), (.bool (decide ((n : Int) < 1))), (i64 (n : Int)), (.bool (decide (100 < (n : Int)))), (.bool (decide (100 < (n : Int)))), (.bool (decide ((n : Int) ≤ self))), (i64 self), (.bool (decide (self < 0))), (.bool (decide (self < 0))), (i64 self), (i64 (n : Int)), (.bool (decide ((n : Int) ≤ self))), (.bool (decide ((n : Int) ≤ self))), (i64 self), (i64 tag), (N3.val (N3.mk self tag 1)), (i64 (n : Int)), (N3.val (N3.mk self tag 1)), (.bool (validB (n : Int) (N3.mk self tag 1))), (.bool (!(validB (n : Int) (N3.mk self tag 1)))), (i64 (n : Int)), (.slice (some ⟨b8, 0, none⟩) n n), (.agg #[(.slice (some ⟨b8, 0, none⟩) n n)]), (ptr b12 0), (ptr b12 0), (ptr b12 0), (ptr b12 0), (.slice (some ⟨b8, 0, none⟩) n n), (i64 (n : Int)), (i64 0), undef, undef, undef, undef, undef, undef, undef, undef, undef, undef, undef, undef, undef, undef, undef, undef, undef, undef, undef]), Fr_congr (by kernel_rfl), rfl, Nat.zero_le _, hE, hb1, hb12, hb8, hl11⟩
  clear hE
  clear hb1
  clear hb12
  clear hb8
  clear hl11
  rintro d a w16 ⟨k15, z_k15, rfl, rfl, hlek15, hE, hb1, hb12, hb8, hl11⟩
  have hfl : (fillL n k15).length = n := fillL_len _ _
  refine c_rs ?_
  refine s1 (v := (.bool (decide ((k15 : Int) < (n : Int))))) (rn_lss (m := (k15 : Int)) (n := (n : Int)) rfl rfl) ?_
  refine w_end ?_
  refine c_seq ?_
  refine c_if (b := (decide ((k15 : Int) < (n : Int)))) rfl (fun h17 => ?_) (fun h17 => ?_)
  ·
    have p18 := of_decide_eq_true h17
    refine c_skip' ?_
    refine t_norm ?_
    refine c_seq ?_
    refine c_block ?_
    refine c_rs ?_
    refine s1 (v := (i64 (k15 : Int))) (rn_mv rfl) ?_
    refine s1 (v := (i64 (k15 : Int))) (rn_as rfl) ?_
    refine w_end ?_
    obtain ⟨x19, o20, hx21, hA22, el23⟩ := hl11.el (k := k15) (by omega)
    refine c_dr (n := 8) [.c (ptr b12 0), .c (ptr b12 0), .c (ptr b12 0), .c (.slice (some ⟨b8, 0, none⟩) n n), .c (i64 (k15 : Int)), .c (i64 (k15 : Int)), .c (N3.val (fresh (k15 : Int))), .c (ptr b8 (o20 + k15 * 3))] rfl mixed (by kernel_rfl) ?_
    refine q_v (v := (ptr b12 0)) (fun W hC => rn_mv rfl) ?_
    refine q_v (v := (ptr b12 0)) (fun W hC => rn_nil rfl) ?_
    refine q_v (v := (ptr b12 0)) (fun W hC => rn_fa fa123_0 rfl rfl) ?_
    refine q_v (v := (.slice (some ⟨b8, 0, none⟩) n n)) (fun W hC => rn_lb1 o22 rfl (hb12.ext0 hC) rfl) ?_
    refine q_v (v := (i64 (k15 : Int))) (fun W hC => rn_mv rfl) ?_
    refine q_v (v := (i64 (k15 : Int))) (fun W hC => rn_mv rfl) ?_
    refine q_call e109 (v := (N3.val (fresh (k15 : Int)))) (vs := [(i64 (k15 : Int))]) rfl (fun W hC => Fresh_c (k15 : Int) _) ?_
    refine q_v (v := (ptr b8 (o20 + k15 * 3))) (fun W hC => rn_ie is22 rfl hA22 rfl (by omega) (by omega) rfl) ?_
    refine ob_end (fun w24 x25 he26 hap27 => ?_)
    replace hE := hE.step0 x25
    replace hb1 := hb1.ext0 x25
    replace hb12 := hb12.ext0 x25
    replace el23 := el23.ext0 x25
    replace hb8 := hb8.ext0 x25
    replace hl11 := hl11.ext0 x25
    clear x25
    have ho30 : o20 = 0 := by cases hA22; rfl
    refine s_st (v := (N3.val (fresh (k15 : Int)))) (vs := (N3.cells (fresh (k15 : Int)))) (cs' := ((fillL n k15).set k15 (fresh (k15 : Int))).flatMap N3.cells ++ []) g28.2 rfl rfl rfl rfl hb8 (by rw [List.length_append, flat3]; omega) rfl (by rw [ho30, Nat.zero_add]; exact set3 _ _ _ _ (by omega)) (fun w28 h_ x29 => ?_)
    replace hE := hE.step1 x29 (by first | (left; simp; done) | (right; omega))
    replace hb1 := hb1.ext1 x29 (by omega)
    replace hb12 := hb12.ext1 x29 (by omega)
    clear x29
    replace hb8 := h_; clear h_
    replace hl11 : Ls N3.cells 3 w28 b8 (some ⟨b8, 0, none⟩) ((fillL n k15).set k15 (fresh (k15 : Int))) := Ls.of_blk (fun _ => rfl) hb8
    refine w_nil ?_
    refine b_norm ?_
    refine t_norm ?_
    refine c_r ?_
    refine s1 (v := (i64 ((k15 : Int) + 1))) (rn_add (m := (k15 : Int)) (n := 1) rfl rfl (wr64 (by omega) (by omega))) ?_
    refine s1 (v := (i64 ((k15 : Int) + 1))) (rn_mv rfl) ?_
    refine w_nil ?_
    refine t_norm ?_
    rw [fillL_set] at hb8 hl11
    exact ⟨n - (k15 + 1), by omega, k15 + 1, (lk [(i64 (n : Int)), (i64 self), (i64 tag), undef, undef, undef, (.pointer none), (i64 0), (ptr b1 0), (ptr b12 0), (i64 (k15 : Int)), (.bool (decide (100 < (n : Int)))), (i64 (n : Int)), (.bool (decide ((n : Int) < 1))), (.bool (decide ((n : Int) < 1))), (i64 (n : Int)), (.bool (decide (100 < (n : Int)))), (.bool (decide (100 < (n : Int)))), (.bool (decide ((n : Int) ≤ self))), (i64 self), (.bool (decide (self < 0))), (.bool (decide (self < 0))), (i64 self), (i64 (n : Int)), (.bool (decide ((n : Int) ≤ self))), (.bool (decide ((n : Int) ≤ self))), (i64 self), (i64 tag), (N3.val (N3.mk self tag 1)), (i64 (n : Int)), (N3.val (N3.mk self tag 1)), (.bool (validB (n : Int) (N3.mk self tag 1))), (.bool (!(validB (n : Int) (N3.mk self tag 1)))), (i64 (n : Int)), (.slice (some ⟨b8, 0, none⟩) n n), (.agg #[(.slice (some ⟨b8, 0, none⟩) n n)]), (ptr b12 0), (ptr b12 0), (ptr b12 0), (ptr b12 0), (.slice (some ⟨b8, 0, none⟩) n n), (i64 (n : Int)), (i64 ((k15 : Int) + 1)), (.bool (decide ((k15 : Int) < (n : Int)))), (i64 (k15 : Int)), (ptr b12 0), (ptr b12 0), (ptr b12 0), (.slice (some ⟨b8, 0, none⟩) n n), (i64 (k15 : Int)), (i64 (k15 : Int)), (N3.val (fresh (k15 : Int))), (ptr b8 (o20 + k15 * 3)), (i64 ((k15 : Int) + 1)), undef, undef, undef, undef, undef, undef, undef, undef]), Fr_congr (by kernel_rfl), rfl, by omega, hE, hb1, hb12, hb8, hl11⟩
  ·
    have p31 := of_decide_eq_false h17
    refine c_exit ?_
    refine t_exit ?_
    refine t_exit ?_
    refine b_here ?_
    refine t_norm ?_
    obtain ⟨x32, o33, hx34, hA35, el36⟩ := hl11.el (k := (self).toNat) (by omega)
    refine c_seq ?_
    refine c_dr (n := 7) [.c (ptr b12 0), .c (ptr b12 0), .c (ptr b12 0), .c (.slice (some ⟨b8, 0, none⟩) n n), .c (i64 self), .c (N3.val (N3.mk self tag 1)), .c (ptr b8 (o33 + (self).toNat * 3))] rfl mixed (by kernel_rfl) ?_
    refine q_v (v := (ptr b12 0)) (fun W hC => rn_mv rfl) ?_
    refine q_v (v := (ptr b12 0)) (fun W hC => rn_nil rfl) ?_
    refine q_v (v := (ptr b12 0)) (fun W hC => rn_fa fa123_0 rfl rfl) ?_
    refine q_v (v := (.slice (some ⟨b8, 0, none⟩) n n)) (fun W hC => rn_lb1 o22 rfl (hb12.ext0 hC) rfl) ?_
    refine q_v (v := (i64 self)) (fun W hC => rn_mv rfl) ?_
    refine q_v (v := (N3.val (N3.mk self tag 1))) (fun W hC => rn_lbN (vs := (N3.cells (N3.mk self tag 1))) g28 rfl (hb1.ext0 hC) rfl rfl) ?_
    refine q_v (v := (ptr b8 (o33 + (self).toNat * 3))) (fun W hC => rn_ie is22 rfl hA35 rfl (by omega) (by omega) rfl) ?_
    refine ob_end (fun w37 x38 he39 hap40 => ?_)
    replace hE := hE.step0 x38
    replace hb1 := hb1.ext0 x38
    replace hb12 := hb12.ext0 x38
    replace el36 := el36.ext0 x38
    replace hb8 := hb8.ext0 x38
    replace hl11 := hl11.ext0 x38
    clear x38
    have ho43 : o33 = 0 := by cases hA35; rfl
    refine s_st (v := (N3.val (N3.mk self tag 1))) (vs := (N3.cells (N3.mk self tag 1))) (cs' := ((fillL n k15).set self.toNat (N3.mk self tag 1)).flatMap N3.cells ++ []) g28.2 rfl rfl rfl rfl hb8 (by rw [List.length_append, flat3]; omega) rfl (by rw [ho43, Nat.zero_add]; exact set3 _ _ _ _ (by omega)) (fun w41 h_ x42 => ?_)
    replace hE := hE.step1 x42 (by first | (left; simp; done) | (right; omega))
    replace hb1 := hb1.ext1 x42 (by omega)
    replace hb12 := hb12.ext1 x42 (by omega)
    clear x42
    replace hb8 := h_; clear h_
    replace hl11 : Ls N3.cells 3 w41 b8 (some ⟨b8, 0, none⟩) ((fillL n k15).set self.toNat (N3.mk self tag 1)) := Ls.of_blk (fun _ => rfl) hb8
    refine w_end ?_
    refine c_rs ?_
    refine s1 (v := (ptr b12 0)) (rn_mv rfl) ?_
    refine s1 (v := (ptr b12 0)) (rn_as rfl) ?_
    refine s1 (v := (i64 0)) (rn_as rfl) ?_
    refine w_end ?_
    refine c_ret ?_
    refine bp_ret (rs2 rfl (rv_tmp (v := (ptr b12 0)) rfl) (rv_tmp (v := (i64 0)) rfl)) ?_
    have hkn : k15 = n := by omega
    rw [hkn, fillL_all] at hb8
    exact ⟨b12, b8, rfl, ⟨n, _, by rw [newL_len]; exact hb12, hb8⟩, by assumption, by assumption, hE⟩

theorem New_i {w0 : World} (n self tag : Int) (h1 : 1 ≤ n) (h2 : n ≤ 100) (h3 : 0 ≤ self) (h4 : self < n) (hv : isTagB tag = true) :
    Calls Try.prog 53 [(i64 n), (i64 self), (i64 tag)].toArray w0 (Ret (fun v w' => ∃ p b, v = .tuple #[ptr p 0, i64 0] ∧ Bk w' p b (newL (n).toNat self tag) ∧ w0.heap.size ≤ p ∧ w0.heap.size ≤ b ∧ Ext [] w0 w')) := by
  obtain ⟨k, rfl⟩ := Int.eq_ofNat_of_zero_le (by omega : 0 ≤ n)
  exact New_c k self tag (by omega) (by omega) h3 h4 hv

theorem CloneN_c {A : Option Addr} {gl c : Nat} {xs : List N3} {w0 : World} (hl : Ls N3.cells 3 w0 gl A xs) (hn : xs.length ≤ 1000000) :
    Calls Try.prog 108 [(.slice A xs.length c)].toArray w0 (Ret (fun v w' => ∃ A' c' g', v = .slice A' xs.length c' ∧ Ls N3.cells 3 w' g' A' xs ∧ (w0.heap.size ≤ g' ∨ xs.length = 0) ∧ Ext [] w0 w')) := by
  have hE : Ext [] w0 w0 := (Ext.refl w0).more (by simp)
  have hgl := hl.lt (by simp)
  refine enter (vs := [(.slice A xs.length c)]) Try.func108 rfl Try.ntmps108 rfl ?_
  refine c_rs ?_
  refine s1 (v := (.slice none 0 0)) (rn_as rfl) ?_
  refine w_end ?_
  refine c_seq ?_
  refine c_rs ?_
  refine s1 (v := (.slice A xs.length c)) (rn_mv rfl) ?_
  refine s1 (v := (.bool ((A).isNone))) (rn_nilS Try.underlying22 rfl) ?_
  refine w_end ?_
  refine c_if (b := ((A).isNone)) rfl (fun h1 => ?_) (fun h1 => ?_)
  ·
    refine c_rs ?_
    refine s1 (v := (.slice none 0 0)) (rn_as rfl) ?_
    refine w_end ?_
    refine c_ret ?_
    refine t_ret ?_
    refine bp_ret (rs1 rfl (rv_tmp (v := (.slice none 0 0)) rfl)) ?_
    cases A with
    | some a => cases h1
    | none =>
      obtain rfl := hl.none
      exact ⟨none, 0, 0, rfl, Ls.nil, .inr rfl, hE⟩
  ·
    refine c_skip' ?_
    refine t_norm ?_
    refine c_rs ?_
    refine s_bs et22 (vs := #[]) (cs := []) (by simp) (by decide) (by simp [Instr.fill, madeCells]) (fun b2 w3 hb2 gb2 x4 => ?_)
    have nb2_hE : w0.heap.size ≤ b2 := Nat.le_trans hE.size gb2
    clear gb2
    replace hE := hE.step0 x4
    replace hl := hl.ext0 x4
    clear x4
    have hO5 : Ow w0.heap.size 28 N3.cells 3 w3 (.slice (some ⟨b2, 0, none⟩) 0 0) [] := ow_empty hb2 (by omega)
    refine s1 (v := (.slice A xs.length c)) (rn_mv rfl) ?_
    refine s_app (ys := xs) et22 (fun _ => rfl) (fun _ => rfl) hO5 (by have h_ := hE.size; omega) rfl rfl hl (by simp only [List.length_cons, List.length_nil]; omega) (by simp only [List.length_cons, List.length_nil]; omega) (fun v6 w7 hO9 x8 hVv6 => ?_)
    have hVsv6 := hE.size
    replace hE := hE.step x8 (fun c hc => by first | (left; simp [hc]; done) | (right; have h_ := hO5.lt c hc; omega))
    replace hl := hl.ext x8 (fun hc => by have h_ := hO5.lt _ hc; omega)
    clear x8
    replace hO5 := hO9; clear hO9
    refine s1 (v := v6) (rn_as rfl) ?_
    refine w_end ?_
    refine c_ret ?_
    refine bp_ret (rs1 rfl (rv_tmp (v := v6) rfl)) ?_
    obtain ⟨A', c', g', rfl, h1, h2⟩ := Ow.ls (cf := N3.cells) (s := 3) (fun _ => rfl) hO5
    exact ⟨A', c', g', rfl, h1, h2, hE⟩

theorem CloneS_c {A : Option Addr} {gl c : Nat} {xs : List S4} {w0 : World} (hl : Ls S4.cells 4 w0 gl A xs) (hn : xs.length ≤ 1000000) :
    Calls Try.prog 129 [(.slice A xs.length c)].toArray w0 (Ret (fun v w' => ∃ A' c' g', v = .slice A' xs.length c' ∧ Ls S4.cells 4 w' g' A' xs ∧ (w0.heap.size ≤ g' ∨ xs.length = 0) ∧ Ext [] w0 w')) := by
  have hE : Ext [] w0 w0 := (Ext.refl w0).more (by simp)
  have hgl := hl.lt (by simp)
  refine enter (vs := [(.slice A xs.length c)]) Try.func129 rfl Try.ntmps129 rfl ?_
  refine c_rs ?_
  refine s1 (v := (.slice none 0 0)) (rn_as rfl) ?_
  refine w_end ?_
  refine c_seq ?_
  refine c_rs ?_
  refine s1 (v := (.slice A xs.length c)) (rn_mv rfl) ?_
  refine s1 (v := (.bool ((A).isNone))) (rn_nilS Try.underlying39 rfl) ?_
  refine w_end ?_
  refine c_if (b := ((A).isNone)) rfl (fun h1 => ?_) (fun h1 => ?_)
  ·
    refine c_rs ?_
    refine s1 (v := (.slice none 0 0)) (rn_as rfl) ?_
    refine w_end ?_
    refine c_ret ?_
    refine t_ret ?_
    refine bp_ret (rs1 rfl (rv_tmp (v := (.slice none 0 0)) rfl)) ?_
    cases A with
    | some a => cases h1
    | none =>
      obtain rfl := hl.none
      exact ⟨none, 0, 0, rfl, Ls.nil, .inr rfl, hE⟩
  ·
    refine c_skip' ?_
    refine t_norm ?_
    refine c_rs ?_
    refine s_bs et39 (vs := #[]) (cs := []) (by simp) (by decide) (by simp [Instr.fill, madeCells]) (fun b2 w3 hb2 gb2 x4 => ?_)
    have nb2_hE : w0.heap.size ≤ b2 := Nat.le_trans hE.size gb2
    clear gb2
    replace hE := hE.step0 x4
    replace hl := hl.ext0 x4
    clear x4
    have hO5 : Ow w0.heap.size 34 S4.cells 4 w3 (.slice (some ⟨b2, 0, none⟩) 0 0) [] := ow_empty hb2 (by omega)
    refine s1 (v := (.slice A xs.length c)) (rn_mv rfl) ?_
    refine s_app (ys := xs) et39 (fun _ => rfl) (fun _ => rfl) hO5 (by have h_ := hE.size; omega) rfl rfl hl (by simp only [List.length_cons, List.length_nil]; omega) (by simp only [List.length_cons, List.length_nil]; omega) (fun v6 w7 hO9 x8 hVv6 => ?_)
    have hVsv6 := hE.size
    replace hE := hE.step x8 (fun c hc => by first | (left; simp [hc]; done) | (right; have h_ := hO5.lt c hc; omega))
    replace hl := hl.ext x8 (fun hc => by have h_ := hO5.lt _ hc; omega)
    clear x8
    replace hO5 := hO9; clear hO9
    refine s1 (v := v6) (rn_as rfl) ?_
    refine w_end ?_
    refine c_ret ?_
    refine bp_ret (rs1 rfl (rv_tmp (v := v6) rfl)) ?_
    obtain ⟨A', c', g', rfl, h1, h2⟩ := Ow.ls (cf := S4.cells) (s := 4) (fun _ => rfl) hO5
    exact ⟨A', c', g', rfl, h1, h2, hE⟩

theorem List_c {p b : Nat} {xs : List N3} {w0 : World} (hB : Bk w0 p b xs) (hn : xs.length ≤ 100) :
    Calls Try.prog 51 [(ptr p 0)].toArray w0 (Ret (fun v w' => ∃ A' c' g', v = .slice A' (xs).length c' ∧ Ls N3.cells 3 w' g' A' (xs) ∧ (w0.heap.size ≤ g' ∨ (xs).length = 0) ∧ Ext [] w0 w')) := by
  have hE : Ext [] w0 w0 := (Ext.refl w0).more (by simp)
  have hnep := hB.ne
  obtain ⟨cp, restp, hpp, hrp⟩ := hB
  have hltp := hpp.lt
  have hlbp := hrp.lt
  have hlsp : Ls N3.cells 3 w0 b (some ⟨b, 0, none⟩) xs := Ls.of_blk (fun _ => rfl) hrp
  refine enter (vs := [(ptr p 0)]) Try.func51 rfl Try.ntmps51 rfl ?_
  refine c_rs ?_
  refine s1 (v := (.slice none 0 0)) (rn_as rfl) ?_
  refine w_end ?_
  refine c_rs ?_
  refine s1 (v := (ptr p 0)) (rn_mv rfl) ?_
  refine s_callP e98 (v := (.slice (some ⟨b, 0, none⟩) xs.length cp)) (vs := [(ptr p 0)]) rfl (list_c hpp) (fun w1 x2 => ?_)
  replace hE := hE.step0 x2
  replace hpp := hpp.ext0 x2
  replace hrp := hrp.ext0 x2
  replace hlsp := hlsp.ext0 x2
  clear x2
  refine s_call e108 (vs := [(.slice (some ⟨b, 0, none⟩) xs.length cp)]) rfl (CloneN_c (c := cp) hlsp (by omega)) ?_
  rintro _ w7 ⟨A3, c4, g5, rfl, hl6, gg5, x8⟩
  have dg5 := gg5.imp_left (fun q => And.intro (Nat.le_trans hE.size q) (Nat.lt_of_lt_of_le hpp.lt q))
  clear gg5
  replace hE := hE.step0 x8
  replace hpp := hpp.ext0 x8
  replace hrp := hrp.ext0 x8
  replace hlsp := hlsp.ext0 x8
  clear x8
  refine s1 (v := (.slice A3 xs.length c4)) (rn_as rfl) ?_
  refine w_end ?_
  refine c_ret ?_
  refine bp_ret (rs1 rfl (rv_tmp (v := (.slice A3 xs.length c4)) rfl)) ?_
  exact ⟨_, _, g5, rfl, hl6, by omega, hE⟩

theorem All_c {p b : Nat} {xs : List N3} {w0 : World} (hB : Bk w0 p b xs) (hn : xs.length ≤ 100) :
    Calls Try.prog 104 [(ptr p 0)].toArray w0 (Ret (fun v w' => ∃ b3 A' c' g', v = .func (.func 140) #[] #[ptr b3 0] ∧ Blk w' b3 22 [.slice A' xs.length c'] ∧ Ls N3.cells 3 w' g' A' xs ∧ w0.heap.size ≤ b3 ∧ (w0.heap.size ≤ g' ∨ xs.length = 0) ∧ Ext [] w0 w')) := by
  have hE : Ext [] w0 w0 := (Ext.refl w0).more (by simp)
  have hnep := hB.ne
  obtain ⟨cp, restp, hpp, hrp⟩ := hB
  have hltp := hpp.lt
  have hlbp := hrp.lt
  have hlsp : Ls N3.cells 3 w0 b (some ⟨b, 0, none⟩) xs := Ls.of_blk (fun _ => rfl) hrp
  refine enter (vs := [(ptr p 0)]) Try.func104 rfl Try.ntmps104 rfl ?_
  refine c_rs ?_
  refine s1 (v := .nilFunc) (rn_as rfl) ?_
  refine w_end ?_
  refine c_rs ?_
  refine s1 (v := (ptr p 0)) (rn_mv rfl) ?_
  refine s_call e51 (vs := [(ptr p 0)]) rfl (List_c ⟨_, _, hpp, hrp⟩ (by first | omega | (simp only [absR_len, mergeR_len, newL_len]; omega))) ?_
  rintro _ w5 ⟨A1, c2, g3, rfl, hl4, gg3, x6⟩
  have dg3 := gg3.imp_left (fun q => And.intro (Nat.le_trans hE.size q) (Nat.lt_of_lt_of_le hpp.lt q))
  clear gg3
  replace hE := hE.step0 x6
  replace hpp := hpp.ext0 x6
  replace hrp := hrp.ext0 x6
  replace hlsp := hlsp.ext0 x6
  clear x6
  refine s_alloc (cs := [(.slice none 0 0)]) z22 rfl (fun b7 w8 hb7 gb7 x9 => ?_)
  have nb7_hE : w0.heap.size ≤ b7 := Nat.le_trans hE.size gb7
  replace dg3 := orAnd dg3 ((hl4.lt (by simp)).imp_left (fun q => Nat.lt_of_lt_of_le q gb7))
  clear gb7
  replace hE := hE.step0 x9
  replace hpp := hpp.ext0 x9
  replace hrp := hrp.ext0 x9
  replace hlsp := hlsp.ext0 x9
  replace hl4 := hl4.ext0 x9
  clear x9
  refine s_st (v := (.slice A1 ((xs).length) c2)) (vs := [(.slice A1 ((xs).length) c2)]) (cs' := [(.slice A1 ((xs).length) c2)]) o22.2 rfl rfl rfl rfl hb7 (by simp) rfl rfl (fun w10 h_ x11 => ?_)
  replace hE := hE.step1 x11 (by first | (left; simp; done) | (right; omega))
  replace hpp := hpp.ext1 x11 (by omega)
  replace hrp := hrp.ext1 x11 (by omega)
  replace hlsp := hlsp.ext1 x11 (by omega)
  replace hl4 := hl4.ext1 x11 (by omega)
  clear x11
  replace hb7 := h_; clear h_
  refine w_end ?_
  refine c_rs ?_
  refine s1 (v := (.func (.func 140) #[] #[(ptr b7 0)])) (rn_mf (vs := [(ptr b7 0)]) rfl) ?_
  refine s1 (v := (.func (.func 140) #[] #[(ptr b7 0)])) (rn_as rfl) ?_
  refine w_end ?_
  refine c_ret ?_
  refine bp_ret (rs1 rfl (rv_tmp (v := (.func (.func 140) #[] #[(ptr b7 0)])) rfl)) ?_
  exact ⟨b7, _, _, g3, rfl, hb7, hl4, by omega, by omega, hE⟩

theorem All1_it {q gl c : Nat} {A : Option Addr} {xs : List N3} {W : World} {L : List Nat} (hq : Blk W q 22 [.slice A xs.length c]) (hl : Ls N3.cells 3 W gl A xs) (hll : xs.length ≤ 1000000) (hqL : q ∉ L) (hgL : gl ∉ L ∨ xs.length = 0) :
    Iter Try.prog 140 [ptr q 0] xs.length (argN xs) W L := by
  intro l J hlp hJ hy h0
  have hE : Ext [] W W := (Ext.refl W).more (by simp)
  obtain ⟨lq, hlq⟩ := hlp
  have hql := hq.ne_loop hlq
  have hgll := hl.ne_loop (by simp) hlq
  have hqW := hq.lt
  have hgW := hl.lt (by simp)
  refine enter (vs := [(.func (.yield l) #[] #[]), (ptr q 0)]) Try.func140 rfl Try.ntmps140 rfl ?_
  refine c_rs ?_
  refine s1 (v := (.slice A xs.length c)) (rn_lb1 o22 rfl hq rfl) ?_
  refine s1 (v := (i64 (xs.length : Int))) (rn_len is22 rfl) ?_
  refine s1 (v := (i64 0)) (rn_mv rfl) ?_
  refine w_end ?_
  refine c_block ?_
  have hsW : W.heap.size ≤ W.heap.size := Nat.le_refl _
  have hj := h0
  have hS : ∀ c ∈ ([] : List Nat), W.heap.size ≤ c := by simp
  refine c_loop (fun d a w => ∃ (k1 : Nat) (S2 : List Nat) (z_k1 : Nat → Value) , a = Fr 16 (lk [(.func (.yield l) #[] #[]), (ptr q 0), undef, undef, (z_k1 4), (.slice A xs.length c), (i64 (xs.length : Int)), (i64 (k1 : Int)), (z_k1 8), (z_k1 9), (z_k1 10), (z_k1 11), (z_k1 12), (z_k1 13), (z_k1 14), (z_k1 15)]) [] ∧ d = xs.length - k1 ∧ k1 ≤ xs.length ∧ Blk w q 22 [(.slice A xs.length c)] ∧ Ls N3.cells 3 w gl A xs ∧ J k1 S2 w ∧ W.heap.size ≤ w.heap.size ∧ ∀ c ∈ S2, W.heap.size ≤ c) (xs.length - 0) ?_ ?_
  · exact ⟨0, [], (lk [(.func (.yield l) #[] #[]), (ptr q 0), undef, undef, undef, (.slice A xs.length c), (i64 (xs.length : Int)), (i64 0), undef, undef, undef, undef, undef, undef, undef, undef]), Fr_congr (by kernel_rfl), rfl, Nat.zero_le _, hq, hl, hj, hsW, hS⟩
  clear hq
  clear hl
  clear hj
  clear hsW
  clear hS
  rintro d a w3 ⟨k1, S2, z_k1, rfl, rfl, hlek1, hq, hl, hj, hsW, hS⟩
  have hEAk1 := Ext.refl w3
  have hswk1 : W.heap.size ≤ w3.heap.size := hsW
  have hSk1 := hS
  refine c_rs ?_
  refine s1 (v := (.bool (decide ((k1 : Int) < (xs.length : Int))))) (rn_lss (m := (k1 : Int)) (n := (xs.length : Int)) rfl rfl) ?_
  refine w_end ?_
  refine c_seq ?_
  refine c_if (b := (decide ((k1 : Int) < (xs.length : Int)))) rfl (fun h4 => ?_) (fun h4 => ?_)
  ·
    have p5 := of_decide_eq_true h4
    refine c_skip' ?_
    refine t_norm ?_
    refine c_seq ?_
    refine c_block ?_
    refine c_rs ?_
    obtain ⟨x6, o7, hx8, hA9, el10⟩ := hl.el (k := k1) (by omega)
    refine s1 (v := (ptr gl (o7 + k1 * 3))) (rn_ie is22 rfl hA9 rfl (by omega) (by omega) rfl) ?_
    refine s1 (v := (N3.val x6)) (rn_ldN (vs := (N3.cells x6)) g28 rfl rfl el10) ?_
    refine s_alloc (cs := [(i64 0), (i64 0), (i64 0)]) z28 rfl (fun b11 w12 hb11 gb11 x13 => ?_)
    have nb11_hEAk1 : w3.heap.size ≤ b11 := Nat.le_trans hEAk1.size gb11
    clear gb11
    replace hEAk1 := hEAk1.step0 x13
    replace hq := hq.ext0 x13
    replace el10 := el10.ext0 x13
    replace hl := hl.ext0 x13
    clear x13
    refine s_st (v := (N3.val x6)) (vs := (N3.cells x6)) (cs' := (N3.cells x6)) g28.2 rfl rfl rfl rfl hb11 (by simp) rfl rfl (fun w14 h_ x15 => ?_)
    replace hEAk1 := hEAk1.step1 x15 (by first | (left; simp; done) | (right; omega))
    replace hq := hq.ext1 x15 (by omega)
    replace el10 := el10.ext1 x15 (by omega)
    replace hl := hl.ext1 x15 (by omega)
    clear x15
    replace hb11 := h_; clear h_
    refine w_end ?_
    refine c_rs ?_
    refine s1 (v := (.func (.yield l) #[] #[])) (rn_mv rfl) ?_
    refine s1 (v := (N3.val x6)) (rn_lbN (vs := (N3.cells x6)) g28 rfl hb11 rfl rfl) ?_
    have hj18 := hJ _ _ _ _ hj (Its.of_ext hEAk1 hswk1)
    have hk_k1 : k1 < xs.length := by omega
    have hsz_k1 := hEAk1.size
    refine s_yield rfl rfl (by rw [← argN_eq hx8]; exact hy k1 S2 _ hk_k1 hj18 (by omega) hSk1) (fun w16 h_ => ?_)
    obtain ⟨S19, hj2k1, hR17, hS2k1⟩ := h_
    have hq := hq.rnd hR17 (by simp only [List.mem_cons, not_or]; exact ⟨hql, hqL⟩) (fun h_ => by have := hSk1 _ h_; omega)
    have hl := hl.rnd hR17 (by rcases hgll with h_ | h_; rcases hgL with h2_ | h2_; rcases hgW with h3_ | h3_; left; exact ⟨by simp only [List.mem_cons, not_or]; exact ⟨h_, h2_⟩, fun h4_ => by have := hSk1 _ h4_; omega⟩; right; exact h3_; right; exact h2_; right; exact h_)
    have hsW : W.heap.size ≤ w16.heap.size := by have h2_ := hR17.size; omega
    have hj := hj2k1
    have hS : ∀ c ∈ S19, W.heap.size ≤ c := fun c hc => by rcases hS2k1 c hc with h_ | h_; exact hSk1 c h_; omega
    refine s1 (v := (.bool false)) (rn_not (b := true) rfl) ?_
    refine w_end ?_
    refine c_F (b := false) rfl rfl ?_
    refine c_skip' ?_
    refine b_norm ?_
    refine t_norm ?_
    refine c_r ?_
    refine s1 (v := (i64 ((k1 : Int) + 1))) (rn_add (m := (k1 : Int)) (n := 1) rfl rfl (wr64 (by omega) (by omega))) ?_
    refine s1 (v := (i64 ((k1 : Int) + 1))) (rn_mv rfl) ?_
    refine w_nil ?_
    refine t_norm ?_
    exact ⟨xs.length - (k1 + 1), by omega, k1 + 1, S19, (lk [(.func (.yield l) #[] #[]), (ptr q 0), undef, undef, (ptr b11 0), (.slice A xs.length c), (i64 (xs.length : Int)), (i64 ((k1 : Int) + 1)), (.bool (decide ((k1 : Int) < (xs.length : Int)))), (ptr gl (o7 + k1 * 3)), (N3.val x6), (.func (.yield l) #[] #[]), (N3.val x6), (.bool true), (.bool false), (i64 ((k1 : Int) + 1))]), Fr_congr (by kernel_rfl), rfl, by omega, hq, hl, hj, hsW, hS⟩
  ·
    have p20 := of_decide_eq_false h4
    refine c_exit ?_
    refine t_exit ?_
    refine t_exit ?_
    refine b_here ?_
    refine bp_end (rs0 rfl) ?_
    obtain rfl : k1 = xs.length := by omega
    exact ⟨_, hj⟩

theorem Values1_it {q gl c : Nat} {A : Option Addr} {xs : List N3} {W : World} {L : List Nat} (hq : Blk W q 22 [.slice A xs.length c]) (hl : Ls N3.cells 3 W gl A xs) (hll : xs.length ≤ 1000000) (hqL : q ∉ L) (hgL : gl ∉ L ∨ xs.length = 0) :
    Iter Try.prog 122 [ptr q 0] xs.length (argN xs) W L := by
  intro l J hlp hJ hy h0
  have hE : Ext [] W W := (Ext.refl W).more (by simp)
  obtain ⟨lq, hlq⟩ := hlp
  have hql := hq.ne_loop hlq
  have hgll := hl.ne_loop (by simp) hlq
  have hqW := hq.lt
  have hgW := hl.lt (by simp)
  refine enter (vs := [(.func (.yield l) #[] #[]), (ptr q 0)]) Try.func122 rfl Try.ntmps122 rfl ?_
  refine c_rs ?_
  refine s1 (v := (.slice A xs.length c)) (rn_lb1 o22 rfl hq rfl) ?_
  refine s1 (v := (i64 (xs.length : Int))) (rn_len is22 rfl) ?_
  refine s1 (v := (i64 0)) (rn_mv rfl) ?_
  refine w_end ?_
  refine c_block ?_
  have hsW : W.heap.size ≤ W.heap.size := Nat.le_refl _
  have hj := h0
  have hS : ∀ c ∈ ([] : List Nat), W.heap.size ≤ c := by simp
  refine c_loop (fun d a w => ∃ (k1 : Nat) (S2 : List Nat) (z_k1 : Nat → Value) , a = Fr 16 (lk [(.func (.yield l) #[] #[]), (ptr q 0), undef, undef, (z_k1 4), (.slice A xs.length c), (i64 (xs.length : Int)), (i64 (k1 : Int)), (z_k1 8), (z_k1 9), (z_k1 10), (z_k1 11), (z_k1 12), (z_k1 13), (z_k1 14), (z_k1 15)]) [] ∧ d = xs.length - k1 ∧ k1 ≤ xs.length ∧ Blk w q 22 [(.slice A xs.length c)] ∧ Ls N3.cells 3 w gl A xs ∧ J k1 S2 w ∧ W.heap.size ≤ w.heap.size ∧ ∀ c ∈ S2, W.heap.size ≤ c) (xs.length - 0) ?_ ?_
  · exact ⟨0, [], (lk [(.func (.yield l) #[] #[]), (ptr q 0), undef, undef, undef, (.slice A xs.length c), (i64 (xs.length : Int)), (i64 0), undef, undef, undef, undef, undef, undef, undef, undef]), Fr_congr (by kernel_rfl), rfl, Nat.zero_le _, hq, hl, hj, hsW, hS⟩
  clear hq
  clear hl
  clear hj
  clear hsW
  clear hS
  rintro d a w3 ⟨k1, S2, z_k1, rfl, rfl, hlek1, hq, hl, hj, hsW, hS⟩
  have hEAk1 := Ext.refl w3
  have hswk1 : W.heap.size ≤ w3.heap.size := hsW
  have hSk1 := hS
  refine c_rs ?_
  refine s1 (v := (.bool (decide ((k1 : Int) < (xs.length : Int))))) (rn_lss (m := (k1 : Int)) (n := (xs.length : Int)) rfl rfl) ?_
  refine w_end ?_
  refine c_seq ?_
  refine c_if (b := (decide ((k1 : Int) < (xs.length : Int)))) rfl (fun h4 => ?_) (fun h4 => ?_)
  ·
    have p5 := of_decide_eq_true h4
    refine c_skip' ?_
    refine t_norm ?_
    refine c_seq ?_
    refine c_block ?_
    refine c_rs ?_
    obtain ⟨x6, o7, hx8, hA9, el10⟩ := hl.el (k := k1) (by omega)
    refine s1 (v := (ptr gl (o7 + k1 * 3))) (rn_ie is22 rfl hA9 rfl (by omega) (by omega) rfl) ?_
    refine s1 (v := (N3.val x6)) (rn_ldN (vs := (N3.cells x6)) g28 rfl rfl el10) ?_
    refine s_alloc (cs := [(i64 0), (i64 0), (i64 0)]) z28 rfl (fun b11 w12 hb11 gb11 x13 => ?_)
    have nb11_hEAk1 : w3.heap.size ≤ b11 := Nat.le_trans hEAk1.size gb11
    clear gb11
    replace hEAk1 := hEAk1.step0 x13
    replace hq := hq.ext0 x13
    replace el10 := el10.ext0 x13
    replace hl := hl.ext0 x13
    clear x13
    refine s_st (v := (N3.val x6)) (vs := (N3.cells x6)) (cs' := (N3.cells x6)) g28.2 rfl rfl rfl rfl hb11 (by simp) rfl rfl (fun w14 h_ x15 => ?_)
    replace hEAk1 := hEAk1.step1 x15 (by first | (left; simp; done) | (right; omega))
    replace hq := hq.ext1 x15 (by omega)
    replace el10 := el10.ext1 x15 (by omega)
    replace hl := hl.ext1 x15 (by omega)
    clear x15
    replace hb11 := h_; clear h_
    refine w_end ?_
    refine c_rs ?_
    refine s1 (v := (.func (.yield l) #[] #[])) (rn_mv rfl) ?_
    refine s1 (v := (N3.val x6)) (rn_lbN (vs := (N3.cells x6)) g28 rfl hb11 rfl rfl) ?_
    have hj18 := hJ _ _ _ _ hj (Its.of_ext hEAk1 hswk1)
    have hk_k1 : k1 < xs.length := by omega
    have hsz_k1 := hEAk1.size
    refine s_yield rfl rfl (by rw [← argN_eq hx8]; exact hy k1 S2 _ hk_k1 hj18 (by omega) hSk1) (fun w16 h_ => ?_)
    obtain ⟨S19, hj2k1, hR17, hS2k1⟩ := h_
    have hq := hq.rnd hR17 (by simp only [List.mem_cons, not_or]; exact ⟨hql, hqL⟩) (fun h_ => by have := hSk1 _ h_; omega)
    have hl := hl.rnd hR17 (by rcases hgll with h_ | h_; rcases hgL with h2_ | h2_; rcases hgW with h3_ | h3_; left; exact ⟨by simp only [List.mem_cons, not_or]; exact ⟨h_, h2_⟩, fun h4_ => by have := hSk1 _ h4_; omega⟩; right; exact h3_; right; exact h2_; right; exact h_)
    have hsW : W.heap.size ≤ w16.heap.size := by have h2_ := hR17.size; omega
    have hj := hj2k1
    have hS : ∀ c ∈ S19, W.heap.size ≤ c := fun c hc => by rcases hS2k1 c hc with h_ | h_; exact hSk1 c h_; omega
    refine s1 (v := (.bool false)) (rn_not (b := true) rfl) ?_
    refine w_end ?_
    refine c_F (b := false) rfl rfl ?_
    refine c_skip' ?_
    refine b_norm ?_
    refine t_norm ?_
    refine c_r ?_
    refine s1 (v := (i64 ((k1 : Int) + 1))) (rn_add (m := (k1 : Int)) (n := 1) rfl rfl (wr64 (by omega) (by omega))) ?_
    refine s1 (v := (i64 ((k1 : Int) + 1))) (rn_mv rfl) ?_
    refine w_nil ?_
    refine t_norm ?_
    exact ⟨xs.length - (k1 + 1), by omega, k1 + 1, S19, (lk [(.func (.yield l) #[] #[]), (ptr q 0), undef, undef, (ptr b11 0), (.slice A xs.length c), (i64 (xs.length : Int)), (i64 ((k1 : Int) + 1)), (.bool (decide ((k1 : Int) < (xs.length : Int)))), (ptr gl (o7 + k1 * 3)), (N3.val x6), (.func (.yield l) #[] #[]), (N3.val x6), (.bool true), (.bool false), (i64 ((k1 : Int) + 1))]), Fr_congr (by kernel_rfl), rfl, by omega, hq, hl, hj, hsW, hS⟩
  ·
    have p20 := of_decide_eq_false h4
    refine c_exit ?_
    refine t_exit ?_
    refine t_exit ?_
    refine b_here ?_
    refine bp_end (rs0 rfl) ?_
    obtain rfl : k1 = xs.length := by omega
    exact ⟨_, hj⟩

theorem News_c {p b : Nat} {xs : List N3} {w0 : World} (hB : Bk w0 p b xs) (hn : xs.length ≤ 100) :
    Calls Try.prog 107 [(ptr p 0)].toArray w0 (Ret (fun v w' => ∃ A' c' g', v = .slice A' (newsOf xs).length c' ∧ Ls N3.cells 3 w' g' A' (newsOf xs) ∧ (w0.heap.size ≤ g' ∨ (newsOf xs).length = 0) ∧ Ext [] w0 w')) := by
  have hE : Ext [] w0 w0 := (Ext.refl w0).more (by simp)
  have hnep := hB.ne
  obtain ⟨cp, restp, hpp, hrp⟩ := hB
  have hltp := hpp.lt
  have hlbp := hrp.lt
  have hlsp : Ls N3.cells 3 w0 b (some ⟨b, 0, none⟩) xs := Ls.of_blk (fun _ => rfl) hrp
  refine enterM (vs := [(ptr p 0)]) Try.func107 rfl Try.ntmps107 rfl ?_
  refine c_rs ?_
  refine s1 (v := (.slice none 0 0)) (rn_as rfl) ?_
  refine w_end ?_
  refine c_rs ?_
  refine s_alloc (cs := [(.slice none 0 0)]) z22 rfl (fun b1 w2 hb1 gb1 x3 => ?_)
  have nb1_hE : w0.heap.size ≤ b1 := Nat.le_trans hE.size gb1
  clear gb1
  replace hE := hE.step0 x3
  replace hpp := hpp.ext0 x3
  replace hrp := hrp.ext0 x3
  replace hlsp := hlsp.ext0 x3
  clear x3
  refine w_end ?_
  refine c_seq ?_
  refine c_rs ?_
  refine s1 (v := (ptr p 0)) (rn_mv rfl) ?_
  refine s_call e104 (vs := [(ptr p 0)]) rfl (All_c ⟨_, _, hpp, hrp⟩ (by first | omega | (simp only [absR_len, mergeR_len, newL_len]; omega))) ?_
  rintro _ w9 ⟨b8, A4, c5, g6, rfl, hb8, hl7, gb8, gg6, x10⟩
  have nb8_hE : w0.heap.size ≤ b8 := Nat.le_trans hE.size gb8
  have ob8 : b1 < b8 := Nat.lt_of_lt_of_le hb1.lt gb8
  clear gb8
  have dg6 := gg6.imp_left (fun q => And.intro (Nat.le_trans hE.size q) (And.intro (Nat.lt_of_lt_of_le hpp.lt q) (Nat.lt_of_lt_of_le hb1.lt q)))
  clear gg6
  replace hE := hE.step0 x10
  replace hpp := hpp.ext0 x10
  replace hb1 := hb1.ext0 x10
  replace hrp := hrp.ext0 x10
  replace hlsp := hlsp.ext0 x10
  clear x10
  refine w_end ?_
  refine c_block ?_
  have hO : Ow w9.heap.size 28 N3.cells 3 w9 (.slice none 0 0) [] := Ow.nil
  have hNw13 := hE.size
  have hq1_b8 := hb8.lt
  have hq2_b8 := hl7.lt (by simp)
  refine c_range (gf := 140) (n := xs.length) (arg := (argN xs)) (L := [b1]) (lb := [(ptr b8 0)]) rfl e140 (fun W hC => All1_it (hb8.ext0 hC) (hl7.ext0 hC) (by omega) (by simp only [List.mem_cons, List.not_mem_nil, or_false]; omega) (by simp only [List.mem_cons, List.not_mem_nil, or_false]; omega)) (by simp; try omega) (fun k11 S W => ∃ (v12 : Value) , S = obl v12 ∧ Ext [] w0 W ∧ Blk W p 123 [(.slice (some ⟨b, 0, none⟩) xs.length cp)] ∧ Blk W b1 22 [v12] ∧ Blk W b8 22 [(.slice A4 xs.length c5)] ∧ Blk W b 28 ((xs).flatMap N3.cells ++ restp) ∧ Ls N3.cells 3 W b (some ⟨b, 0, none⟩) xs ∧ Ls N3.cells 3 W g6 A4 xs ∧ Ow w9.heap.size 28 N3.cells 3 W v12 (newsOf (xs.take k11))) ⟨(.slice none 0 0), rfl, hE, hpp, hb1, hb8, hrp, hlsp, hl7, hO⟩ (fun k11 S A B ⟨v12, hSe, hE, hpp, hb1, hb8, hrp, hlsp, hl7, hO⟩ hI => ⟨v12, hSe, hE.its hI (by omega), hpp.its hI, hb1.its hI, hb8.its hI, hrp.its hI, hlsp.its hI, hl7.its hI, hO.its hI⟩) ?_ ?_
  · skip
    clear hE
    clear hpp
    clear hb1
    clear hb8
    clear hrp
    clear hlsp
    clear hl7
    clear hO
    rintro lp k11 S w14 hk15 ⟨v12, rfl, hE, hpp, hb1, hb8, hrp, hlsp, hl7, hO⟩ hA16 hSN17
    have hbdk11 := filt_le (fun x => !decide (x = fresh x.of)) xs k11; change (newsOf (xs.take k11)).length ≤ _ at hbdk11
    obtain ⟨x18, hx19⟩ : ∃ x, (xs)[k11]? = some x := ⟨_, List.getElem?_eq_getElem hk15⟩
    rw [argN_eq hx19]
    have hEA20 := Ext.refl w14
    refine c_r ?_
    refine s_alloc (cs := [(i64 0), (i64 0), (i64 0)]) z28 rfl (fun b21 w22 hb21 gb21 x23 => ?_)
    have nb21_hE : w0.heap.size ≤ b21 := Nat.le_trans hE.size gb21
    have nb21_hEA20 : w14.heap.size ≤ b21 := Nat.le_trans hEA20.size gb21
    have ob21 : b8 < b21 := Nat.lt_of_lt_of_le hb8.lt gb21
    replace dg6 := orAnd dg6 ((hl7.lt (by simp)).imp_left (fun q => Nat.lt_of_lt_of_le q gb21))
    have obb21_hO : ∀ c ∈ obl v12, c < b21 := fun c hc => Nat.lt_of_lt_of_le (hO.lt c hc).2 gb21
    clear gb21
    replace hE := hE.step0 x23
    replace hEA20 := hEA20.step0 x23
    replace hpp := hpp.ext0 x23
    replace hb1 := hb1.ext0 x23
    replace hb8 := hb8.ext0 x23
    replace hrp := hrp.ext0 x23
    replace hlsp := hlsp.ext0 x23
    replace hl7 := hl7.ext0 x23
    replace hO := hO.ext0 x23
    clear x23
    refine s_st (v := (N3.val x18)) (vs := (N3.cells x18)) (cs' := (N3.cells x18)) g28.2 rfl rfl rfl rfl hb21 (by simp) rfl rfl (fun w24 h_ x25 => ?_)
    replace hE := hE.step1 x25 (by first | (left; simp; done) | (right; omega))
    replace hEA20 := hEA20.step1 x25 (by first | (left; simp; done) | (right; omega))
    replace hpp := hpp.ext1 x25 (by omega)
    replace hb1 := hb1.ext1 x25 (by omega)
    replace hb8 := hb8.ext1 x25 (by omega)
    replace hrp := hrp.ext1 x25 (by omega)
    replace hlsp := hlsp.ext1 x25 (by omega)
    replace hl7 := hl7.ext1 x25 (by omega)
    replace hO := hO.ext x25 (fun c hc => by have h_ := hO.lt c hc; have := obb21_hO c hc; simp; omega)
    clear x25
    replace hb21 := h_; clear h_
    refine w_nil ?_
    refine t_norm ⟨hEA20, fun w26 hI27 => ?_⟩
    have hszw26 := hEA20.size
    have hsyw26 := hI27.size
    replace hE := hE.its hI27 (by omega)
    replace hpp := hpp.its hI27
    replace hb1 := hb1.its hI27
    replace hb8 := hb8.its hI27
    replace hb21 := hb21.its hI27
    replace hrp := hrp.its hI27
    replace hlsp := hlsp.its hI27
    replace hl7 := hl7.its hI27
    replace hO := hO.its hI27
    have hR28 : Ext ([b1] ++ obl v12) w26 w26 := (Ext.refl w26).more (by simp)
    have hQ29 : ∀ c ∈ ([b1] ++ obl v12 : List Nat), ((∃ cs e z, w26.heap[c]? = some (Obj.cells cs e z)) ∨ w26.heap.size ≤ c) ∧ (c ∈ ([b1] : List Nat) ∨ c ∈ (obl v12 : List Nat) ∨ w26.heap.size ≤ c) := by
      intro c hc
      rcases List.mem_append.1 hc with hc | hc
      · simp at hc; subst hc; exact ⟨.inl hb1.cellsAt, .inl (by simp)⟩
      · exact ⟨.inl (hO.cellsAt c hc), .inr (.inl hc)⟩
    refine c_block ?_
    refine c_seq ?_
    refine c_dr (n := 5) [.c (N3.val x18), .c (ptr b21 0), .c (i64 x18.of), .c (N3.val (fresh x18.of)), .c (.bool (!(decide (x18 = (fresh x18.of)))))] rfl mixed (by kernel_rfl) ?_
    refine q_v (v := (N3.val x18)) (fun W hC => rn_lbN (vs := (N3.cells x18)) g28 rfl (hb21.ext0 hC) rfl rfl) ?_
    refine q_v (v := (ptr b21 0)) (fun W hC => rn_fa fa28_0 rfl rfl) ?_
    refine q_v (v := (i64 x18.of)) (fun W hC => rn_lb1 o3 rfl (hb21.ext0 hC) rfl) ?_
    refine q_call e109 (v := (N3.val (fresh x18.of))) (vs := [(i64 x18.of)]) rfl (fun W hC => Fresh_c x18.of _) ?_
    refine q_v (v := (.bool (!(decide (x18 = (fresh x18.of)))))) (fun W hC => ne28 (a := x18) (b := (fresh x18.of)) rfl rfl) ?_
    refine ob_end (fun w30 x31 he32 hap33 => ?_)
    replace hE := hE.step0 x31
    replace hR28 := hR28.step0 x31
    replace hpp := hpp.ext0 x31
    replace hb1 := hb1.ext0 x31
    replace hb8 := hb8.ext0 x31
    replace hb21 := hb21.ext0 x31
    replace hrp := hrp.ext0 x31
    replace hlsp := hlsp.ext0 x31
    replace hl7 := hl7.ext0 x31
    replace hO := hO.ext0 x31
    clear x31
    refine w_end ?_
    refine c_if (b := (!(decide (x18 = (fresh x18.of))))) rfl (fun h34 => ?_) (fun h34 => ?_)
    ·
      have h35 := not_t h34
      have p36 := of_decide_eq_false h35
      refine c_r ?_
      refine s1 (v := v12) (rn_lb1 o22 rfl hb1 rfl) ?_
      refine s1 (v := (N3.val x18)) (rn_lbN (vs := (N3.cells x18)) g28 rfl hb21 rfl rfl) ?_
      refine s_bs et22 (vs := #[(0, (N3.val x18))]) (cs := [(i64 x18.of), (i64 x18.tag), (i64 x18.kind)]) (by kernel_rfl) (by decide) (by kernel_rfl) (fun b37 w38 hb37 gb37 x39 => ?_)
      have nb37_hE : w0.heap.size ≤ b37 := Nat.le_trans hE.size gb37
      have nb37_hR28 : w26.heap.size ≤ b37 := Nat.le_trans hR28.size gb37
      have ob37 : b21 < b37 := Nat.lt_of_lt_of_le hb21.lt gb37
      replace dg6 := orAnd dg6 ((hl7.lt (by simp)).imp_left (fun q => Nat.lt_of_lt_of_le q gb37))
      have obb37_hO : ∀ c ∈ obl v12, c < b37 := fun c hc => Nat.lt_of_lt_of_le (hO.lt c hc).2 gb37
      clear gb37
      replace hE := hE.step0 x39
      replace hR28 := hR28.step0 x39
      replace hpp := hpp.ext0 x39
      replace hb1 := hb1.ext0 x39
      replace hb8 := hb8.ext0 x39
      replace hb21 := hb21.ext0 x39
      replace hrp := hrp.ext0 x39
      replace hlsp := hlsp.ext0 x39
      replace hl7 := hl7.ext0 x39
      replace hO := hO.ext0 x39
      clear x39
      have hl40 : Ls N3.cells 3 w38 b37 (some ⟨b37, 0, none⟩) [x18] := Ls.of_blk (rest := []) (fun _ => rfl) hb37
      refine s_app (ys := [x18]) et22 (fun _ => rfl) (fun _ => rfl) hO (by have h_ := hR28.size; omega) rfl rfl hl40 (by simp only [List.length_cons, List.length_nil]; omega) (by simp only [List.length_cons, List.length_nil]; omega) (fun v41 w42 hO44 x43 hVv41 => ?_)
      have hVsv41 := hR28.size
      clear hb21
      clear hb37
      clear hl40
      replace hE := hE.step x43 (fun c hc => by first | (left; simp [hc]; done) | (right; have h_ := hO.lt c hc; have := obb21_hO c hc; have := obb37_hO c hc; omega))
      replace hR28 := hR28.step x43 (fun c hc => by first | (left; simp [hc]; done) | (right; have h_ := hO.lt c hc; have := obb21_hO c hc; have := obb37_hO c hc; omega))
      replace hpp := hpp.ext x43 (fun hc => by have h_ := hO.lt _ hc; have := obb21_hO _ hc; have := obb37_hO _ hc; omega)
      replace hb1 := hb1.ext x43 (fun hc => by have h_ := hO.lt _ hc; have := obb21_hO _ hc; have := obb37_hO _ hc; omega)
      replace hb8 := hb8.ext x43 (fun hc => by have h_ := hO.lt _ hc; have := obb21_hO _ hc; have := obb37_hO _ hc; omega)
      replace hrp := hrp.ext x43 (fun hc => by have h_ := hO.lt _ hc; have := obb21_hO _ hc; have := obb37_hO _ hc; omega)
      replace hlsp := hlsp.ext x43 (fun hc => by have h_ := hO.lt _ hc; have := obb21_hO _ hc; have := obb37_hO _ hc; omega)
      replace hl7 := hl7.ext x43 (fun hc => by have h_ := hO.lt _ hc; have := obb21_hO _ hc; have := obb37_hO _ hc; omega)
      clear x43
      replace hO := hO44; clear hO44
      refine s_st (v := v41) (vs := [v41]) (cs' := [v41]) o22.2 rfl rfl hO.cell1 rfl hb1 (by simp) hO.one rfl (fun w45 h_ x46 => ?_)
      replace hE := hE.step1 x46 (by first | (left; simp; done) | (right; omega))
      replace hR28 := hR28.step1 x46 (by first | (left; simp; done) | (right; omega))
      replace hpp := hpp.ext1 x46 (by omega)
      replace hb8 := hb8.ext1 x46 (by omega)
      replace hrp := hrp.ext1 x46 (by omega)
      replace hlsp := hlsp.ext1 x46 (by omega)
      replace hl7 := hl7.ext1 x46 (by omega)
      replace hO := hO.ext x46 (fun c hc => by have h_ := hO.lt c hc; simp; omega)
      clear x46
      replace hb1 := h_; clear h_
      refine w_nil ?_
      refine b_norm ?_
      have en : newsOf (xs.take (k11 + 1)) = newsOf (xs.take k11) ++ [x18] := by unfold newsOf; rw [take_snoc hx19, filt_snoc, if_pos h34]
      rw [← en] at hO
      exact ⟨obl v41, ⟨v41, rfl, hE, hpp, hb1, hb8, hrp, hlsp, hl7, hO⟩, Rnd.of_ext hR28 hQ29, (fun c hc => (hVv41 c hc).imp_right (fun q => Nat.le_trans hVsv41 q))⟩
    ·
      have h47 := not_f h34
      have p48 := of_decide_eq_true h47
      refine c_skip' ?_
      refine b_norm ?_
      have en : newsOf (xs.take (k11 + 1)) = newsOf (xs.take k11) := by unfold newsOf; rw [take_snoc hx19, filt_snoc, if_neg (by rw [h34]; decide)]
      rw [← en] at hO
      exact ⟨obl v12, ⟨v12, rfl, hE, hpp, hb1, hb8, hrp, hlsp, hl7, hO⟩, Rnd.of_ext hR28 hQ29, fun c hc => .inl hc⟩
  · skip
    clear hE
    clear hpp
    clear hb1
    clear hb8
    clear hrp
    clear hlsp
    clear hl7
    clear hO
    rintro D50 w49 S ⟨v54, rfl, hE, hpp, hb1, hb8, hrp, hlsp, hl7, hO⟩ hD51 hK52 hSN53
    change Dfr w49 D50 at hK52
    refine b_norm ?_
    refine t_norm ?_
    refine c_rs ?_
    refine s1 (v := v54) (rn_lb1 o22 rfl hb1 rfl) ?_
    refine s1 (v := v54) (rn_as rfl) ?_
    refine w_end ?_
    refine c_ret ?_
    refine bpm_ret hK52 (fun w55 hI56 => ?_)
    replace hE := hE.its hI56 (by omega)
    replace hpp := hpp.its hI56
    replace hb1 := hb1.its hI56
    replace hb8 := hb8.its hI56
    replace hrp := hrp.its hI56
    replace hlsp := hlsp.its hI56
    replace hl7 := hl7.its hI56
    replace hO := hO.its hI56
    refine ⟨_, rs1 rfl (rv_tmp (v := v54) rfl), ?_⟩
    simp only [List.take_length] at hO
    obtain ⟨A', c', g', rfl, h1, h2⟩ := Ow.ls (cf := N3.cells) (s := 3) (fun _ => rfl) hO
    exact ⟨A', c', g', rfl, h1, by omega, hE⟩

theorem Ride_c {p b : Nat} {xs : List N3} {w0 : World} (hB : Bk w0 p b xs) (hn : xs.length ≤ 100) :
    Calls Try.prog 49 [(ptr p 0)].toArray w0 (Ret (fun v w' => ∃ A' c' g', v = .slice A' (newsOf xs).length c' ∧ Ls N3.cells 3 w' g' A' (newsOf xs) ∧ (w0.heap.size ≤ g' ∨ (newsOf xs).length = 0) ∧ Ext [] w0 w')) := by
  have hE : Ext [] w0 w0 := (Ext.refl w0).more (by simp)
  have hltp := hB.ltp
  have hlbp := hB.ltb
  refine enter (vs := [(ptr p 0)]) Try.func49 rfl Try.ntmps49 rfl ?_
  refine c_rs ?_
  refine s1 (v := (.slice none 0 0)) (rn_as rfl) ?_
  refine w_end ?_
  refine c_rs ?_
  refine s1 (v := (ptr p 0)) (rn_mv rfl) ?_
  refine s_call e107 (vs := [(ptr p 0)]) rfl (News_c hB (by first | omega | (simp only [absR_len, mergeR_len, newL_len]; omega))) ?_
  rintro _ w5 ⟨A1, c2, g3, rfl, hl4, gg3, x6⟩
  have dg3 := gg3.imp_left (fun q => Nat.le_trans hE.size q)
  clear gg3
  replace hE := hE.step0 x6
  replace hB := hB.ext0 x6
  clear x6
  refine s1 (v := (.slice A1 (((newsOf xs)).length) c2)) (rn_as rfl) ?_
  refine w_end ?_
  refine c_ret ?_
  refine bp_ret (rs1 rfl (rv_tmp (v := (.slice A1 (((newsOf xs)).length) c2)) rfl)) ?_
  exact ⟨_, _, g3, rfl, hl4, by omega, hE⟩

theorem EqualN_c {A B : Option Addr} {ga gb c c' : Nat} {xs ys : List N3} {w0 : World} (hl : Ls N3.cells 3 w0 ga A xs) (hl2 : Ls N3.cells 3 w0 gb B ys) (hn : xs.length ≤ 1000000) :
    Calls Try.prog 97 [(.slice A xs.length c), (.slice B ys.length c')].toArray w0 (Ret (Pu (.bool (decide (xs = ys))) w0)) := by
  have hE : Ext [] w0 w0 := (Ext.refl w0).more (by simp)
  have hga := hl.lt (by simp)
  have hgb := hl2.lt (by simp)
  refine enter (vs := [(.slice A xs.length c), (.slice B ys.length c')]) Try.func97 rfl Try.ntmps97 rfl ?_
  refine c_rs ?_
  refine s1 (v := (.bool false)) (rn_as rfl) ?_
  refine w_end ?_
  refine c_seq ?_
  refine c_rs ?_
  refine s1 (v := (.slice A xs.length c)) (rn_mv rfl) ?_
  refine s1 (v := (i64 (xs.length : Int))) (rn_len is22 rfl) ?_
  refine s1 (v := (.slice B ys.length c')) (rn_mv rfl) ?_
  refine s1 (v := (i64 (ys.length : Int))) (rn_len is22 rfl) ?_
  refine s1 (v := (.bool (decide ((xs.length : Int) ≠ (ys.length : Int))))) (rn_neq (m := (xs.length : Int)) (n := (ys.length : Int)) rfl rfl) ?_
  refine w_end ?_
  refine c_if (b := (decide ((xs.length : Int) ≠ (ys.length : Int)))) rfl (fun h1 => ?_) (fun h1 => ?_)
  ·
    have p2 := of_decide_eq_true h1
    refine c_rs ?_
    refine s1 (v := (.bool false)) (rn_as rfl) ?_
    refine w_end ?_
    refine c_ret ?_
    refine t_ret ?_
    refine bp_ret (rs1 rfl (rv_tmp (v := (.bool false)) rfl)) ?_
    have exy : ¬ xs = ys := by rintro rfl; simp at h1
    exact ⟨by rw [decide_eq_false exy], hE⟩
  ·
    have p3 := of_decide_eq_false h1
    refine c_skip' ?_
    refine t_norm ?_
    refine c_seq ?_
    refine c_rs ?_
    refine s1 (v := (.slice A xs.length c)) (rn_mv rfl) ?_
    refine s1 (v := (i64 (xs.length : Int))) (rn_len is22 rfl) ?_
    refine s1 (v := (i64 0)) (rn_mv rfl) ?_
    refine w_end ?_
    refine c_block ?_
    refine c_loop (fun d a w => ∃ (k4 : Nat) (z_k4 : Nat → Value) , a = Fr 26 (lk [(.slice A xs.length c), (.slice B ys.length c'), undef, undef, (z_k4 4), (z_k4 5), (.slice A xs.length c), (i64 (xs.length : Int)), (.slice B ys.length c'), (i64 (ys.length : Int)), (.bool (decide ((xs.length : Int) ≠ (ys.length : Int)))), (.slice A xs.length c), (i64 (xs.length : Int)), (i64 (k4 : Int)), (z_k4 14), (z_k4 15), (z_k4 16), (z_k4 17), (z_k4 18), (z_k4 19), (z_k4 20), (z_k4 21), (z_k4 22), (z_k4 23), (z_k4 24), (z_k4 25)]) [] ∧ d = xs.length - k4 ∧ k4 ≤ xs.length ∧ Ext [] w0 w ∧ Ls N3.cells 3 w ga A xs ∧ Ls N3.cells 3 w gb B ys ∧ xs.take k4 = ys.take k4) (xs.length - 0) ?_ ?_
    · exact ⟨0, (lk [(.slice A xs.length c), (.slice B ys.length c'), undef, undef, (.bool false), undef, (.slice A xs.length c), (i64 (xs.length : Int)), (.slice B ys.length c'), (i64 (ys.length : Int)), (.bool (decide ((xs.length : Int) ≠ (ys.length : Int)))), (.slice A xs.length c), (i64 (xs.length : Int)), (i64 0), undef, undef, undef, undef, undef, undef, undef, undef, undef, undef, undef, undef]), Fr_congr (by kernel_rfl), rfl, Nat.zero_le _, hE, hl, hl2, rfl⟩
    clear hE
    clear hl
    clear hl2
    rintro d a w5 ⟨k4, z_k4, rfl, rfl, hlek4, hE, hl, hl2, hpre⟩
    refine c_rs ?_
    refine s1 (v := (.bool (decide ((k4 : Int) < (xs.length : Int))))) (rn_lss (m := (k4 : Int)) (n := (xs.length : Int)) rfl rfl) ?_
    refine w_end ?_
    refine c_seq ?_
    refine c_if (b := (decide ((k4 : Int) < (xs.length : Int)))) rfl (fun h6 => ?_) (fun h6 => ?_)
    ·
      have p7 := of_decide_eq_true h6
      refine c_skip' ?_
      refine t_norm ?_
      refine c_seq ?_
      refine c_block ?_
      refine c_rs ?_
      refine s1 (v := (i64 (k4 : Int))) (rn_mv rfl) ?_
      refine s1 (v := (i64 (k4 : Int))) (rn_as rfl) ?_
      refine w_end ?_
      obtain ⟨x8, o9, hx10, hA11, el12⟩ := hl.el (k := k4) (by omega)
      obtain ⟨x13, o14, hx15, hA16, el17⟩ := hl2.el (k := k4) (by omega)
      refine c_seq ?_
      refine c_dr (n := 9) [.c (.slice A xs.length c), .c (i64 (k4 : Int)), .c (ptr ga (o9 + k4 * 3)), .c (N3.val x8), .c (.slice B ys.length c'), .c (i64 (k4 : Int)), .c (ptr gb (o14 + k4 * 3)), .c (N3.val x13), .c (.bool (!(decide (x8 = x13))))] rfl mixed (by kernel_rfl) ?_
      refine q_v (v := (.slice A xs.length c)) (fun W hC => rn_mv rfl) ?_
      refine q_v (v := (i64 (k4 : Int))) (fun W hC => rn_mv rfl) ?_
      refine q_v (v := (ptr ga (o9 + k4 * 3))) (fun W hC => rn_ie is22 rfl hA11 rfl (by omega) (by omega) rfl) ?_
      refine q_v (v := (N3.val x8)) (fun W hC => rn_ldN (vs := (N3.cells x8)) g28 rfl rfl (el12.ext0 hC)) ?_
      refine q_v (v := (.slice B ys.length c')) (fun W hC => rn_mv rfl) ?_
      refine q_v (v := (i64 (k4 : Int))) (fun W hC => rn_mv rfl) ?_
      refine q_v (v := (ptr gb (o14 + k4 * 3))) (fun W hC => rn_ie is22 rfl hA16 rfl (by omega) (by omega) rfl) ?_
      refine q_v (v := (N3.val x13)) (fun W hC => rn_ldN (vs := (N3.cells x13)) g28 rfl rfl (el17.ext0 hC)) ?_
      refine q_v (v := (.bool (!(decide (x8 = x13))))) (fun W hC => ne28 (a := x8) (b := x13) rfl rfl) ?_
      refine ob_end (fun w18 x19 he20 hap21 => ?_)
      replace hE := hE.step0 x19
      replace el12 := el12.ext0 x19
      replace el17 := el17.ext0 x19
      replace hl := hl.ext0 x19
      replace hl2 := hl2.ext0 x19
      clear x19
      refine w_end ?_
      refine c_if (b := (!(decide (x8 = x13)))) rfl (fun h22 => ?_) (fun h22 => ?_)
      ·
        have h23 := not_t h22
        have p24 := of_decide_eq_false h23
        refine c_rs ?_
        refine s1 (v := (.bool false)) (rn_as rfl) ?_
        refine w_end ?_
        refine c_ret ?_
        refine b_ret ?_
        refine t_ret ?_
        refine t_ret ?_
        refine b_ret ?_
        refine t_ret ?_
        refine bp_ret (rs1 rfl (rv_tmp (v := (.bool false)) rfl)) ?_
        have exy : ¬ xs = ys := by rintro rfl; rw [hx10] at hx15; cases hx15; simp at h22
        exact ⟨by rw [decide_eq_false exy], hE⟩
      ·
        have h25 := not_f h22
        have p26 := of_decide_eq_true h25
        refine c_skip' ?_
        refine b_norm ?_
        refine t_norm ?_
        refine c_r ?_
        refine s1 (v := (i64 ((k4 : Int) + 1))) (rn_add (m := (k4 : Int)) (n := 1) rfl rfl (wr64 (by omega) (by omega))) ?_
        refine s1 (v := (i64 ((k4 : Int) + 1))) (rn_mv rfl) ?_
        refine w_nil ?_
        refine t_norm ?_
        exact ⟨xs.length - (k4 + 1), by omega, k4 + 1, (lk [(.slice A xs.length c), (.slice B ys.length c'), undef, undef, (z_k4 4), (i64 (k4 : Int)), (.slice A xs.length c), (i64 (xs.length : Int)), (.slice B ys.length c'), (i64 (ys.length : Int)), (.bool (decide ((xs.length : Int) ≠ (ys.length : Int)))), (.slice A xs.length c), (i64 (xs.length : Int)), (i64 ((k4 : Int) + 1)), (.bool (decide ((k4 : Int) < (xs.length : Int)))), (i64 (k4 : Int)), (.slice A xs.length c), (i64 (k4 : Int)), (ptr ga (o9 + k4 * 3)), (N3.val x8), (.slice B ys.length c'), (i64 (k4 : Int)), (ptr gb (o14 + k4 * 3)), (N3.val x13), (.bool (!(decide (x8 = x13)))), (i64 ((k4 : Int) + 1))]), Fr_congr (by kernel_rfl), rfl, by omega, hE, hl, hl2, (by rw [take_snoc hx10, take_snoc hx15, hpre, of_decide_eq_true (not_f h22)])⟩
    ·
      have p27 := of_decide_eq_false h6
      refine c_exit ?_
      refine t_exit ?_
      refine t_exit ?_
      refine b_here ?_
      refine t_norm ?_
      refine c_rs ?_
      refine s1 (v := (.bool true)) (rn_as rfl) ?_
      refine w_end ?_
      refine c_ret ?_
      refine bp_ret (rs1 rfl (rv_tmp (v := (.bool true)) rfl)) ?_
      obtain rfl : k4 = xs.length := by omega
      have el : xs.length = ys.length := by omega
      have exy : xs = ys := by rw [List.take_length] at hpre; rw [hpre, el, List.take_length]
      exact ⟨by rw [decide_eq_true exy], hE⟩

theorem Same_c {p b : Nat} {xs : List N3} {w0 : World} (hB : Bk w0 p b xs) {q d : Nat} {ys : List N3} (hD : Bk w0 q d ys) (hn : xs.length ≤ 100) :
    Calls Try.prog 35 [(ptr p 0), (ptr q 0)].toArray w0 (Ret (Pu (.bool (decide (xs = ys))) w0)) := by
  have hE : Ext [] w0 w0 := (Ext.refl w0).more (by simp)
  have hnep := hB.ne
  obtain ⟨cp, restp, hpp, hrp⟩ := hB
  have hltp := hpp.lt
  have hlbp := hrp.lt
  have hlsp : Ls N3.cells 3 w0 b (some ⟨b, 0, none⟩) xs := Ls.of_blk (fun _ => rfl) hrp
  have hneq := hD.ne
  obtain ⟨cq, restq, hpq, hrq⟩ := hD
  have hltq := hpq.lt
  have hlbq := hrq.lt
  have hlsq : Ls N3.cells 3 w0 d (some ⟨d, 0, none⟩) ys := Ls.of_blk (fun _ => rfl) hrq
  refine enter (vs := [(ptr p 0), (ptr q 0)]) Try.func35 rfl Try.ntmps35 rfl ?_
  refine c_rs ?_
  refine s1 (v := (.bool false)) (rn_as rfl) ?_
  refine w_end ?_
  refine c_rs ?_
  refine s1 (v := (ptr p 0)) (rn_mv rfl) ?_
  refine s_callP e98 (v := (.slice (some ⟨b, 0, none⟩) xs.length cp)) (vs := [(ptr p 0)]) rfl (list_c hpp) (fun w1 x2 => ?_)
  replace hE := hE.step0 x2
  replace hpp := hpp.ext0 x2
  replace hpq := hpq.ext0 x2
  replace hrp := hrp.ext0 x2
  replace hlsp := hlsp.ext0 x2
  replace hrq := hrq.ext0 x2
  replace hlsq := hlsq.ext0 x2
  clear x2
  refine s1 (v := (ptr q 0)) (rn_mv rfl) ?_
  refine s_callP e98 (v := (.slice (some ⟨d, 0, none⟩) ys.length cq)) (vs := [(ptr q 0)]) rfl (list_c hpq) (fun w3 x4 => ?_)
  replace hE := hE.step0 x4
  replace hpp := hpp.ext0 x4
  replace hpq := hpq.ext0 x4
  replace hrp := hrp.ext0 x4
  replace hlsp := hlsp.ext0 x4
  replace hrq := hrq.ext0 x4
  replace hlsq := hlsq.ext0 x4
  clear x4
  refine s_callP e97 (v := (.bool (decide (xs = ys)))) (vs := [(.slice (some ⟨b, 0, none⟩) xs.length cp), (.slice (some ⟨d, 0, none⟩) ys.length cq)]) rfl (EqualN_c (c := cp) (c' := cq) hlsp hlsq (by omega)) (fun w5 x6 => ?_)
  replace hE := hE.step0 x6
  replace hpp := hpp.ext0 x6
  replace hpq := hpq.ext0 x6
  replace hrp := hrp.ext0 x6
  replace hlsp := hlsp.ext0 x6
  replace hrq := hrq.ext0 x6
  replace hlsq := hlsq.ext0 x6
  clear x6
  refine s1 (v := (.bool (decide (xs = ys)))) (rn_as rfl) ?_
  refine w_end ?_
  refine c_ret ?_
  refine bp_ret (rs1 rfl (rv_tmp (v := (.bool (decide (xs = ys)))) rfl)) ?_
  exact ⟨rfl, hE⟩

end Go.Proofs.Ytfdffeameoejfaa
