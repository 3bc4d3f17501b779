/- InferNamed: the statement. -/
import Derived.Test.YtfdffeameoejfaaLinfernamed
import Derived.Test.YtfdffeameoejfaaOpen
namespace Go.Proofs.Ytfdffeameoejfaa.inferNamed
open Go Go.ChangeShapes Go.WideShapes Go.ChangeAt Go.RowKit Go.Deep
set_option linter.unusedVariables false

theorem hone : ∀ fs, Try.prog.underlying 28 = some (.struct fs) → oneCellFields Try.prog fs = true ∧ Try.prog.cellsOf 28 = fs.size ∧ fs.size = 3 ∧ ∀ (j : Nat) (f : Field), fs[j]? = some f → Try.prog.underlying f.type = some (.int .i64) := by
  intro fs h
  have h' := TypeDesc.struct.inj (Option.some.inj (h.symm.trans Try.underlying28))
  subst h'
  refine ⟨?_, ?_, rfl, ?_⟩
  · show oneCellFields _ _ = true; kernel_rfl
  · show Try.prog.cellsOf 28 = 3; kernel_rfl
  · intro j f hj
    match j, hj with
    | 0, hj => cases hj; exact Try.underlying3
    | 1, hj => cases hj; exact Try.underlying3
    | 2, hj => cases hj; exact Try.underlying3

theorem readable : ∀ t ∈ Try.f14.params.toList, Try.prog.readableRec t = true ∧ t < Try.prog.types.size := by
  rw [Try.params14]
  intro t ht
  simp only [List.mem_cons, List.not_mem_nil, or_false] at ht
  rcases ht with rfl | rfl | rfl
  · exact ⟨by kernel_rfl, of_decide_eq_true (by kernel_rfl)⟩
  · exact ⟨by kernel_rfl, of_decide_eq_true (by kernel_rfl)⟩
  · exact ⟨by kernel_rfl, of_decide_eq_true (by kernel_rfl)⟩

set_option maxRecDepth 100000 in
theorem contract (H : Type) (enc : TypeId × Value → H) (W : World) (base : Nat) (args : Array Value) (ds gs : List (DataW H)) (before : List MemPlace)
    (hval : ∀ (j : Nat) t v, Try.f14.params[j]? = some t → args[j]? = some v → Value.okWide Try.prog W .any base t v)
    (hW : DataW.Whole enc Try.prog Try.f14.params.toList Rows.inferNamedSpec.vars false W args.toList ds gs before) :
    Calls Try.prog 14 args W fun e W' => ∃ v, e = .returned v ∧ Rows.inferNamedSpec.post enc Try.prog Try.f14 false true false false W args v W' := by
  have hW' := hW
  obtain ⟨p, q, hA0, hV, rfl, hfz, hnd⟩ := hW
  have hA : DataW.TrodAll enc Try.prog W 0 (fun _ => true) true Try.f14.params.toList args.toList ds p := hA0
  rw [Try.params14] at hA hval
  obtain ⟨v0, vs0, d0, ds0, p0, q0, hargs, rfl, rfl, h0, r0⟩ := trodAll_cons hA
  obtain ⟨v1, vs1, d1, ds1, p1, q1, rfl, rfl, rfl, h1, r1⟩ := trodAll_cons r0
  obtain ⟨v2, vs2, d2, ds2, p2, q2, rfl, rfl, rfl, h2, r2⟩ := trodAll_cons r1
  obtain ⟨rfl, rfl, rfl⟩ := trodAll_nil r2
  obtain rfl : args = #[v0, v1, v2] := by cases args; simp_all
  obtain ⟨rfl, rfl⟩ := trodVars_none hV
  obtain ⟨a0, rfl, rfl, rfl, w0⟩ := open_int Try.underlying3 (hval 0 3 v0 rfl rfl) h0
  obtain ⟨A1, c1, g1, l1, rfl, hl1, hw1, hm1, hd1⟩ := open_notices Try.underlying22 Try.underlying28 (hone _ Try.underlying28).1 (hone _ Try.underlying28).2.1 (hone _ Try.underlying28).2.2.1 (hone _ Try.underlying28).2.2.2 (hval 1 22 v1 rfl rfl) h1
  obtain ⟨s2, rfl, hw2⟩ := open_set Try.underlying34 Try.underlying32 (by show Try.prog.cellsOf 32 = 1; kernel_rfl) (by show Try.prog.cellsOf 34 = 4; kernel_rfl) h2
  clear hA0
  simp only [List.append_nil] at hW'
  exact contract_of (f := 14) (fn := Try.f14) (s := Rows.inferNamedSpec) (gs := []) laid_out rfl readable Try.underlying4 rfl hW' rfl (InferNamed_w a0 s2 hl1 (by simp only [maxLen] at hm1; omega) hw2)

set_option maxRecDepth 100000 in
theorem lifted (os : Os) (started : os.Started) (H : Type) (enc : TypeId × Value → H) :
    ReturnsInHanded {} Try.checked os 14 .any (Rows.inferNamedSpec.pre6 enc Try.prog Try.f14 Rows.inferNamedRow.domain false) (Rows.inferNamedSpec.post enc Try.prog Try.f14 false true false false) := by
  refine returnsInHanded_of_change (C := Try.checked) own_knob started (by kernel_rfl) Try.func14
    (ChangeSpec.witness6 (enc := enc) (C := Try.checked) false ⟨#[], #[.int .i64 0, .slice none 0 0, .agg #[.int .u32 0, .int .u32 0, .int .u32 0, .int .u32 0]], []⟩ 8 (by kernel_rfl) (by kernel_rfl) (by kernel_rfl) (by kernel_rfl)) ?_
  intro W base args ds gs before hval hW hcnd _
  exact contract H enc W base args ds gs before hval hW

theorem over : Rows.inferNamedRow.holds Try.pinned (OpenSpec.ofChange Rows.inferNamedSpec) :=
  OpenClaim.holds_of_wide 14 Try.f14 rfl rfl rfl rfl rfl rfl rfl ⟨rfl, rfl, rfl, rfl, rfl⟩ rfl rfl rfl rfl rfl (by kernel_rfl) Try.func14 (by kernel_rfl)
    (of_decide_eq_true (by kernel_rfl)) (by unfold Func.isWrapper; first | (rw [if_pos (by decide +kernel)]; kernel_rfl) | (rw [if_neg (by decide +kernel)]; exact ⟨rfl, rfl⟩))
    (fun os started H enc _ => lifted os started H enc)

theorem proved : Rows.InferNamedSaid :=
  over
end Go.Proofs.Ytfdffeameoejfaa.inferNamed
