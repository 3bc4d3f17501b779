/- infer3: printed walks. -/
import Derived.Test.YtfdffeameoejfaaInfer2
namespace Go.Proofs.Ytfdffeameoejfaa
open Go Go.RowKit
set_option linter.unusedVariables false
set_option linter.unusedSimpArgs false

theorem idsI_at {s : S4} {k x : Nat} (h : (idsS s)[k]? = some x) : (idsI s)[k]? = some (x : Int) := by unfold idsI; rw [List.getElem?_map, h]; rfl
theorem idsI_len (s : S4) : (idsI s).length = (idsS s).length := by unfold idsI; rw [List.length_map]

theorem Ids_c (s : S4) {w0 : World} :
    Calls Try.prog 54 [(S4.val s)].toArray w0 (Ret (fun v w' => ∃ A' c' g', v = .slice A' (idsI s).length c' ∧ Ls I1.cells 1 w' g' A' (idsI s) ∧ (w0.heap.size ≤ g' ∨ (idsI s).length = 0) ∧ Ext [] w0 w')) := by
  have hE : Ext [] w0 w0 := (Ext.refl w0).more (by simp)
  have hil := idsS_le s
  refine enterM (vs := [(S4.val s)]) Try.func54 rfl Try.ntmps54 rfl ?_
  refine c_rs ?_
  refine s_box (v := (S4.val s)) (cs := (S4.cells s)) rfl rfl (fun b1 w2 hb1 gb1 x3 => ?_)
  have nb1_hE : w0.heap.size ≤ b1 := Nat.le_trans hE.size gb1
  clear gb1
  replace hE := hE.step0 x3
  clear x3
  refine s1 (v := (.slice none 0 0)) (rn_as rfl) ?_
  refine w_end ?_
  refine c_rs ?_
  refine s_alloc (cs := [(.slice none 0 0)]) z40 rfl (fun b4 w5 hb4 gb4 x6 => ?_)
  have nb4_hE : w0.heap.size ≤ b4 := Nat.le_trans hE.size gb4
  have ob4 : b1 < b4 := Nat.lt_of_lt_of_le hb1.lt gb4
  clear gb4
  replace hE := hE.step0 x6
  replace hb1 := hb1.ext0 x6
  clear x6
  refine w_end ?_
  refine c_seq ?_
  refine c_rs ?_
  refine s1 (v := (S4.val s)) (rn_lbN (vs := (S4.cells s)) g34 rfl hb1 rfl rfl) ?_
  refine s_call e110 (vs := [(S4.val s)]) rfl (AllIds_c s) ?_
  rintro _ w8 ⟨b7, rfl, hb7, gb7, x9⟩
  have nb7_hE : w0.heap.size ≤ b7 := Nat.le_trans hE.size gb7
  have ob7 : b4 < b7 := Nat.lt_of_lt_of_le hb4.lt gb7
  clear gb7
  replace hE := hE.step0 x9
  replace hb1 := hb1.ext0 x9
  replace hb4 := hb4.ext0 x9
  clear x9
  refine w_end ?_
  refine c_block ?_
  have hO : Ow w8.heap.size 3 I1.cells 1 w8 (.slice none 0 0) [] := Ow.nil
  have hNw12 := hE.size
  have hq1_b7 := hb7.lt
  refine c_range (gf := 141) (n := (idsS s).length) (arg := (argI (idsS s))) (L := [b4]) (lb := [(ptr b7 0)]) rfl e141 (fun W hC => IdAll1_it (hb7.ext0 hC) (by simp only [List.mem_cons, List.not_mem_nil, or_false]; omega)) (by simp; try omega) (fun k10 S W => ∃ (v11 : Value) , S = obl v11 ∧ Ext [] w0 W ∧ Blk W b1 34 (S4.cells s) ∧ Blk W b4 40 [v11] ∧ Blk W b7 34 (S4.cells s) ∧ Ow w8.heap.size 3 I1.cells 1 W v11 ((idsI s).take k10)) ⟨(.slice none 0 0), rfl, hE, hb1, hb4, hb7, hO⟩ (fun k10 S A B ⟨v11, hSe, hE, hb1, hb4, hb7, hO⟩ hI => ⟨v11, hSe, hE.its hI (by omega), hb1.its hI, hb4.its hI, hb7.its hI, hO.its hI⟩) ?_ ?_
  · skip
    clear hE
    clear hb1
    clear hb4
    clear hb7
    clear hO
    rintro lp k10 S w13 hk14 ⟨v11, rfl, hE, hb1, hb4, hb7, hO⟩ hA15 hSN16
    obtain ⟨x17, hx18⟩ : ∃ x, (idsS s)[k10]? = some x := ⟨_, List.getElem?_eq_getElem hk14⟩
    rw [argI_eq hx18]
    have hxlx17 := idsS_lt hx18
    have hbek10 : ((idsI s).take k10).length ≤ k10 := by simp; omega
    have hEA19 := Ext.refl w13
    refine c_r ?_
    refine s1 (v := (i64 (x17 : Int))) (rn_as rfl) ?_
    refine w_nil ?_
    refine t_norm ⟨hEA19, fun w20 hI21 => ?_⟩
    have hszw20 := hEA19.size
    have hsyw20 := hI21.size
    replace hE := hE.its hI21 (by omega)
    replace hb1 := hb1.its hI21
    replace hb4 := hb4.its hI21
    replace hb7 := hb7.its hI21
    replace hO := hO.its hI21
    have hR22 : Ext ([b4] ++ obl v11) w20 w20 := (Ext.refl w20).more (by simp)
    have hQ23 : ∀ c ∈ ([b4] ++ obl v11 : List Nat), ((∃ cs e z, w20.heap[c]? = some (Obj.cells cs e z)) ∨ w20.heap.size ≤ c) ∧ (c ∈ ([b4] : List Nat) ∨ c ∈ (obl v11 : List Nat) ∨ w20.heap.size ≤ c) := by
      intro c hc
      rcases List.mem_append.1 hc with hc | hc
      · simp at hc; subst hc; exact ⟨.inl hb4.cellsAt, .inl (by simp)⟩
      · exact ⟨.inl (hO.cellsAt c hc), .inr (.inl hc)⟩
    refine c_block ?_
    refine c_r ?_
    refine s1 (v := v11) (rn_lb1 o40 rfl hb4 rfl) ?_
    refine s1 (v := (i64 (x17 : Int))) (rn_mv rfl) ?_
    refine s_bs et40 (vs := #[(0, (i64 (x17 : Int)))]) (cs := [(i64 (x17 : Int))]) (by kernel_rfl) (by decide) (by kernel_rfl) (fun b24 w25 hb24 gb24 x26 => ?_)
    have nb24_hE : w0.heap.size ≤ b24 := Nat.le_trans hE.size gb24
    have nb24_hR22 : w20.heap.size ≤ b24 := Nat.le_trans hR22.size gb24
    have ob24 : b7 < b24 := Nat.lt_of_lt_of_le hb7.lt gb24
    have obb24_hO : ∀ c ∈ obl v11, c < b24 := fun c hc => Nat.lt_of_lt_of_le (hO.lt c hc).2 gb24
    clear gb24
    replace hE := hE.step0 x26
    replace hR22 := hR22.step0 x26
    replace hb1 := hb1.ext0 x26
    replace hb4 := hb4.ext0 x26
    replace hb7 := hb7.ext0 x26
    replace hO := hO.ext0 x26
    clear x26
    have hl27 : Ls I1.cells 1 w25 b24 (some ⟨b24, 0, none⟩) [(x17 : Int)] := Ls.of_blk (rest := []) (fun _ => rfl) hb24
    refine s_app (ys := [(x17 : Int)]) et40 (fun _ => rfl) (fun _ => rfl) hO (by have h_ := hR22.size; omega) rfl rfl hl27 (by simp only [List.length_cons, List.length_nil]; omega) (by simp only [List.length_cons, List.length_nil]; omega) (fun v28 w29 hO31 x30 hVv28 => ?_)
    have hVsv28 := hR22.size
    clear hb24
    clear hl27
    replace hE := hE.step x30 (fun c hc => by first | (left; simp [hc]; done) | (right; have h_ := hO.lt c hc; have := obb24_hO c hc; omega))
    replace hR22 := hR22.step x30 (fun c hc => by first | (left; simp [hc]; done) | (right; have h_ := hO.lt c hc; have := obb24_hO c hc; omega))
    replace hb1 := hb1.ext x30 (fun hc => by have h_ := hO.lt _ hc; have := obb24_hO _ hc; first | omega | (exfalso; omega))
    replace hb4 := hb4.ext x30 (fun hc => by have h_ := hO.lt _ hc; have := obb24_hO _ hc; first | omega | (exfalso; omega))
    replace hb7 := hb7.ext x30 (fun hc => by have h_ := hO.lt _ hc; have := obb24_hO _ hc; first | omega | (exfalso; omega))
    clear x30
    replace hO := hO31; clear hO31
    refine s_st (v := v28) (vs := [v28]) (cs' := [v28]) o40.2 rfl rfl hO.cell1 rfl hb4 (by simp) hO.one rfl (fun w32 h_ x33 => ?_)
    replace hE := hE.step1 x33 (by first | (left; simp; done) | (right; omega))
    replace hR22 := hR22.step1 x33 (by first | (left; simp; done) | (right; omega))
    replace hb1 := hb1.ext1 x33 (by omega)
    replace hb7 := hb7.ext1 x33 (by omega)
    replace hO := hO.ext x33 (fun c hc => by have h_ := hO.lt c hc; simp; omega)
    clear x33
    replace hb4 := h_; clear h_
    refine w_nil ?_
    refine b_norm ?_
    have en : (idsI s).take (k10 + 1) = (idsI s).take k10 ++ [(x17 : Int)] := take_snoc (idsI_at hx18)
    rw [← en] at hO
    exact ⟨obl v28, ⟨v28, rfl, hE, hb1, hb4, hb7, hO⟩, Rnd.of_ext hR22 hQ23, (fun c hc => (hVv28 c hc).imp_right (fun q => Nat.le_trans hVsv28 q))⟩
  · skip
    clear hE
    clear hb1
    clear hb4
    clear hb7
    clear hO
    rintro D35 w34 S ⟨v39, rfl, hE, hb1, hb4, hb7, hO⟩ hD36 hK37 hSN38
    change Dfr w34 D35 at hK37
    refine b_norm ?_
    refine t_norm ?_
    refine c_rs ?_
    refine s1 (v := v39) (rn_lb1 o40 rfl hb4 rfl) ?_
    refine s1 (v := v39) (rn_as rfl) ?_
    refine w_end ?_
    refine c_ret ?_
    refine bpm_ret hK37 (fun w40 hI41 => ?_)
    replace hE := hE.its hI41 (by omega)
    replace hb1 := hb1.its hI41
    replace hb4 := hb4.its hI41
    replace hb7 := hb7.its hI41
    replace hO := hO.its hI41
    refine ⟨_, rs1 rfl (rv_tmp (v := v39) rfl), ?_⟩
    rw [← idsI_len, List.take_length] at hO
    obtain ⟨A', c', g', rfl, h1, h2⟩ := Ow.ls (cf := I1.cells) (s := 1) (fun _ => rfl) hO
    exact ⟨A', c', g', rfl, h1, by omega, hE⟩

end Go.Proofs.Ytfdffeameoejfaa
