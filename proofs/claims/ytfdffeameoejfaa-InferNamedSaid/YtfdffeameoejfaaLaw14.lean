/- law14: printed walks. -/
import Derived.Test.YtfdffeameoejfaaInfer
namespace Go.Proofs.Ytfdffeameoejfaa
open Go Go.RowKit
set_option linter.unusedVariables false
set_option linter.unusedSimpArgs false

theorem bd34_0 {M : Nat} {l : Nat → Value} {w : World} {d : Option Tmp} {t : TypeId} {p : String} {af : Array Edge} {g : Option (Nat × Bool)} {x0 : Operand} {a0 : Int} (h0 : ev M l x0 = (.int .u32 a0)) :
    Rn Try.prog M l w d (.build 34 #[(0, x0)]) t p af g (.agg #[(.int .u32 a0), (u32 0), (u32 0), (u32 0)]) := by
  have hb : (Instr.build 34 #[(0, (.int .u32 a0))]).run Try.prog w = .ok (.agg #[(.int .u32 a0), (u32 0), (u32 0), (u32 0)]) w := by kernel_rfl
  simp [Rn, execOp, h0, hb]

theorem alive14_c {w0 : World} :
    Calls Try.prog 25 [].toArray w0 (Ret (Pu (.bool true) w0)) := by
  have hE : Ext [] w0 w0 := (Ext.refl w0).more (by simp)
  refine enter (vs := []) Try.func25 rfl Try.ntmps25 rfl ?_
  refine c_rs ?_
  refine s1 (v := (.bool false)) (rn_as rfl) ?_
  refine w_end ?_
  refine c_rs ?_
  refine s1 (v := (S4.val (S4.mk 1 0 0 0))) (bd34_0 rfl ) ?_
  refine s_call e27 (vs := [(i64 4), (i64 2), (i64 0), (i64 1), (S4.val (S4.mk 1 0 0 0))]) rfl (NewT_c 4 2 0 1 (S4.mk 1 0 0 0) (by omega) (by omega) (by omega) (by omega) (by omega) (by omega) (by omega) (by omega) (by kernel_rfl)) ?_
  rintro _ w3 ⟨p1, v2, rfl, hb4, hO5, gp1, gvv2, x6⟩
  have hNw : w0.heap.size ≤ w0.heap.size := hE.size
  have hNp := gp1
  have nvv2 : ∀ c ∈ obl v2, w0.heap.size ≤ c := fun c hc => Nat.le_trans hE.size (gvv2 c hc)
  have np1_hE : w0.heap.size ≤ p1 := Nat.le_trans hE.size gp1
  clear gp1
  replace hE := hE.step0 x6
  clear x6
  refine s1 (v := (.tuple #[(ptr p1 0), (i64 0)])) (rn_mv rfl) ?_
  refine s1 (v := (ptr p1 0)) (rn_ex (vs := [(ptr p1 0), (i64 0)]) rfl rfl) ?_
  refine s1 (v := (i64 0)) (rn_ex (vs := [(ptr p1 0), (i64 0)]) rfl rfl) ?_
  refine s1 (v := (ptr p1 0)) (rn_as rfl) ?_
  refine s1 (v := (i64 0)) (rn_as rfl) ?_
  refine w_end ?_
  refine c_rs ?_
  have hpq0 := hb4.lt
  have hsz0 := hE.size
  refine s1 (v := (ptr p1 0)) (rn_mv rfl) ?_
  refine s1 (v := (S4.val (S4.mk 6 0 0 0))) (bd34_0 rfl ) ?_
  have hpkv7 := hb4.lt
  refine s_call e28 (vs := [(ptr p1 0), (i64 1), (i64 1), (S4.val (S4.mk 6 0 0 0))]) rfl (TakeT_c (rep := (withS (S4.mk 0 0 0 0) (Int.toNat 0))) hb4 hO5 (by omega) 1 1 (S4.mk 6 0 0 0) (by omega) (by first | omega | simp)) ?_
  rintro _ w10 ⟨v7, r8, r9, rfl, hb11, hO12, x13, hVv7⟩
  replace hE := hE.step x13 (fun c hc => by rcases List.mem_cons.1 hc with h_ | h_ <;> first | (left; simp [h_]; done) | (right; omega) | (right; have h1_ := hO5.lt _ h_; omega))
  replace hb4 := hb11; clear hb11
  replace hO5 := hO12; clear hO12
  clear x13
  refine w_end ?_
  refine c_rs ?_
  rw [show (if (ctd 4 (4 - 2) 1 (withS (S4.mk 0 0 0 0) (Int.toNat 0)) (([] : List S4) ++ [(S4.mk 1 0 0 0)]).length 1 1 (S4.mk 6 0 0 0)) then withS (withS (S4.mk 0 0 0 0) (Int.toNat 0)) (Int.toNat 1) else (withS (S4.mk 0 0 0 0) (Int.toNat 0))) = S4.mk 3 0 0 0 from by kernel_rfl] at hb4
  rw [show (if (ctd 4 (4 - 2) 1 (withS (S4.mk 0 0 0 0) (Int.toNat 0)) (([] : List S4) ++ [(S4.mk 1 0 0 0)]).length 1 1 (S4.mk 6 0 0 0)) then (([] : List S4) ++ [(S4.mk 1 0 0 0)]) ++ [(S4.mk 6 0 0 0)] else (([] : List S4) ++ [(S4.mk 1 0 0 0)])) = [S4.mk 1 0 0 0, S4.mk 6 0 0 0] from by kernel_rfl] at hO5
  have hlen2 : ([S4.mk 1 0 0 0, S4.mk 6 0 0 0] : List S4).length ≤ 1000000 := by simp
  have hpq := hb4.lt
  refine s1 (v := (ptr p1 0)) (rn_mv rfl) ?_
  refine s_callP e29 (v := (.tuple #[(S4.val (lessS (upToS 4) (unionS (S4.mk 3 0 0 0) (unionL ([S4.mk 1 0 0 0, S4.mk 6 0 0 0]))))), (i64 0)])) (vs := [(i64 4), (ptr p1 0)]) rfl (Missing_c (rep := (S4.mk 3 0 0 0)) 4 (by omega) (by omega) hb4 hO5 (by omega) (by kernel_rfl)) (fun w14 x15 => ?_)
  replace hE := hE.step0 x15
  replace hb4 := hb4.ext0 x15
  replace hO5 := hO5.ext0 x15
  clear x15
  refine s1 (v := (.tuple #[(S4.val (lessS (upToS 4) (unionS (S4.mk 3 0 0 0) (unionL ([S4.mk 1 0 0 0, S4.mk 6 0 0 0]))))), (i64 0)])) (rn_mv rfl) ?_
  refine s1 (v := (S4.val (lessS (upToS 4) (unionS (S4.mk 3 0 0 0) (unionL ([S4.mk 1 0 0 0, S4.mk 6 0 0 0])))))) (rn_ex (vs := [(S4.val (lessS (upToS 4) (unionS (S4.mk 3 0 0 0) (unionL ([S4.mk 1 0 0 0, S4.mk 6 0 0 0]))))), (i64 0)]) rfl rfl) ?_
  refine s1 (v := (i64 0)) (rn_ex (vs := [(S4.val (lessS (upToS 4) (unionS (S4.mk 3 0 0 0) (unionL ([S4.mk 1 0 0 0, S4.mk 6 0 0 0]))))), (i64 0)]) rfl rfl) ?_
  refine s_alloc (cs := [(u32 0), (u32 0), (u32 0), (u32 0)]) z34 rfl (fun b16 w17 hb16 gb16 x18 => ?_)
  have nb16_hE : w0.heap.size ≤ b16 := Nat.le_trans hE.size gb16
  have ob16 : p1 < b16 := Nat.lt_of_lt_of_le hb4.lt gb16
  have obb16_hO5 : ∀ c ∈ obl v7, c < b16 := fun c hc => Nat.lt_of_lt_of_le (hO5.lt c hc).2 gb16
  clear gb16
  replace hE := hE.step0 x18
  replace hb4 := hb4.ext0 x18
  replace hO5 := hO5.ext0 x18
  clear x18
  refine s_st (v := (S4.val (lessS (upToS 4) (unionS (S4.mk 3 0 0 0) (unionL ([S4.mk 1 0 0 0, S4.mk 6 0 0 0])))))) (vs := (S4.cells (lessS (upToS 4) (unionS (S4.mk 3 0 0 0) (unionL ([S4.mk 1 0 0 0, S4.mk 6 0 0 0])))))) (cs' := (S4.cells (lessS (upToS 4) (unionS (S4.mk 3 0 0 0) (unionL ([S4.mk 1 0 0 0, S4.mk 6 0 0 0])))))) g34.2 rfl rfl rfl rfl hb16 (by simp) rfl rfl (fun w19 h_ x20 => ?_)
  replace hE := hE.step1 x20 (by first | (left; simp; done) | (right; omega))
  replace hb4 := hb4.ext1 x20 (by omega)
  replace hO5 := hO5.ext x20 (fun c hc => by have h_ := hO5.lt c hc; have := obb16_hO5 c hc; simp; omega)
  clear x20
  replace hb16 := h_; clear h_
  refine s1 (v := (i64 0)) (rn_as rfl) ?_
  refine w_end ?_
  refine c_rs ?_
  refine s1 (v := (i64 0)) (rn_mv rfl) ?_
  refine s1 (v := (.bool true)) (rn_eql (m := 0) (n := 0) rfl rfl) ?_
  refine s1 (v := (.bool true)) (rn_mv rfl) ?_
  refine g_yes rfl rfl rfl rfl ?_
  refine s1 (v := (S4.val (lessS (upToS 4) (unionS (S4.mk 3 0 0 0) (unionL ([S4.mk 1 0 0 0, S4.mk 6 0 0 0])))))) (rn_lbN (vs := (S4.cells (lessS (upToS 4) (unionS (S4.mk 3 0 0 0) (unionL ([S4.mk 1 0 0 0, S4.mk 6 0 0 0])))))) g34 rfl hb16 rfl rfl) ?_
  refine g_yes rfl rfl rfl rfl ?_
  refine s1 (v := (S4.val (S4.mk 8 0 0 0))) (bd34_0 rfl ) ?_
  refine g_yes rfl rfl rfl rfl ?_
  refine s1 (v := (.bool (decide ((lessS (upToS 4) (unionS (S4.mk 3 0 0 0) (unionL ([S4.mk 1 0 0 0, S4.mk 6 0 0 0])))) = (S4.mk 8 0 0 0))))) (eq34 (a := (lessS (upToS 4) (unionS (S4.mk 3 0 0 0) (unionL ([S4.mk 1 0 0 0, S4.mk 6 0 0 0]))))) (b := (S4.mk 8 0 0 0)) rfl rfl) ?_
  refine s1 (v := (.bool (decide ((lessS (upToS 4) (unionS (S4.mk 3 0 0 0) (unionL ([S4.mk 1 0 0 0, S4.mk 6 0 0 0])))) = (S4.mk 8 0 0 0))))) (rn_pT (b := true) rfl rfl rfl) ?_
  refine s1 (v := (.bool (decide ((lessS (upToS 4) (unionS (S4.mk 3 0 0 0) (unionL ([S4.mk 1 0 0 0, S4.mk 6 0 0 0])))) = (S4.mk 8 0 0 0))))) (rn_mv rfl) ?_
  refine g_yes rfl rfl rfl (decide_eq_true (by kernel_rfl)) ?_
  refine s1 (v := (S4.val (S4.mk 1 0 0 0))) (bd34_0 rfl ) ?_
  refine g_yes rfl rfl rfl (decide_eq_true (by kernel_rfl)) ?_
  refine s1 (v := (S4.val (S4.mk 4 0 0 0))) (bd34_0 rfl ) ?_
  refine g_yes rfl rfl rfl (decide_eq_true (by kernel_rfl)) ?_
  refine s_bs et39 (vs := #[(0, (S4.val (S4.mk 1 0 0 0))), (1, (S4.val (S4.mk 4 0 0 0)))]) (cs := [(u32 ((S4.mk 1 0 0 0).a)), (u32 ((S4.mk 1 0 0 0).b)), (u32 ((S4.mk 1 0 0 0).c)), (u32 ((S4.mk 1 0 0 0).d)), (u32 ((S4.mk 4 0 0 0).a)), (u32 ((S4.mk 4 0 0 0).b)), (u32 ((S4.mk 4 0 0 0).c)), (u32 ((S4.mk 4 0 0 0).d))]) (by kernel_rfl) (by decide) (by kernel_rfl) (fun b21 w22 hb21 gb21 x23 => ?_)
  have nb21_hE : w0.heap.size ≤ b21 := Nat.le_trans hE.size gb21
  have ob21 : b16 < b21 := Nat.lt_of_lt_of_le hb16.lt gb21
  have obb21_hO5 : ∀ c ∈ obl v7, c < b21 := fun c hc => Nat.lt_of_lt_of_le (hO5.lt c hc).2 gb21
  clear gb21
  replace hE := hE.step0 x23
  replace hb4 := hb4.ext0 x23
  replace hb16 := hb16.ext0 x23
  replace hO5 := hO5.ext0 x23
  clear x23
  have hl24 : Ls S4.cells 4 w22 b21 (some ⟨b21, 0, none⟩) [(S4.mk 1 0 0 0), (S4.mk 4 0 0 0)] := Ls.of_blk (rest := []) (fun _ => rfl) hb21
  refine g_yes rfl rfl rfl (decide_eq_true (by kernel_rfl)) ?_
  refine s_callP e76 (v := (S4.val (unionL ([(S4.mk 1 0 0 0), (S4.mk 4 0 0 0)])))) (vs := [(.slice (some ⟨b21, 0, none⟩) 2 2)]) rfl (UnionI_c (c := 2) hl24 (by omega)) (fun w25 x26 => ?_)
  replace hE := hE.step0 x26
  replace hb4 := hb4.ext0 x26
  replace hb16 := hb16.ext0 x26
  replace hb21 := hb21.ext0 x26
  replace hO5 := hO5.ext0 x26
  replace hl24 := hl24.ext0 x26
  clear x26
  refine g_yes rfl rfl rfl (decide_eq_true (by kernel_rfl)) ?_
  refine s1 (v := (S4.val (S4.mk 5 0 0 0))) (bd34_0 rfl ) ?_
  refine g_yes rfl rfl rfl (decide_eq_true (by kernel_rfl)) ?_
  refine s1 (v := (.bool (decide ((unionL ([(S4.mk 1 0 0 0), (S4.mk 4 0 0 0)])) = (S4.mk 5 0 0 0))))) (eq34 (a := (unionL ([(S4.mk 1 0 0 0), (S4.mk 4 0 0 0)]))) (b := (S4.mk 5 0 0 0)) rfl rfl) ?_
  refine s1 (v := (.bool (decide ((unionL ([(S4.mk 1 0 0 0), (S4.mk 4 0 0 0)])) = (S4.mk 5 0 0 0))))) (rn_pT (b := (decide ((lessS (upToS 4) (unionS (S4.mk 3 0 0 0) (unionL ([S4.mk 1 0 0 0, S4.mk 6 0 0 0])))) = (S4.mk 8 0 0 0)))) rfl (decide_eq_true (by kernel_rfl)) rfl) ?_
  refine s1 (v := (.bool (decide ((unionL ([(S4.mk 1 0 0 0), (S4.mk 4 0 0 0)])) = (S4.mk 5 0 0 0))))) (rn_as rfl) ?_
  refine w_end ?_
  refine c_ret ?_
  refine bp_ret (rs1 rfl (rv_tmp (v := (.bool (decide ((unionL ([(S4.mk 1 0 0 0), (S4.mk 4 0 0 0)])) = (S4.mk 5 0 0 0))))) rfl)) ?_
  exact ⟨rfl, hE⟩

end Go.Proofs.Ytfdffeameoejfaa
