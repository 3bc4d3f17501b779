/- SpreadGossip: the statement. -/
import Derived.Test.YtfdffeameoejfaaLspreadgossip
import Derived.Test.YtfdffeameoejfaaOpen
namespace Go.Proofs.Ytfdffeameoejfaa.spreadGossip
open Go Go.ChangeShapes Go.WideShapes Go.ChangeAt Go.RowKit Go.Deep
set_option linter.unusedVariables false

theorem hone : ∀ fs, Try.prog.underlying 28 = some (.struct fs) → oneCellFields Try.prog fs = true ∧ Try.prog.cellsOf 28 = fs.size ∧ fs.size = 3 ∧ ∀ (j : Nat) (f : Field), fs[j]? = some f → Try.prog.underlying f.type = some (.int .i64) := by
  intro fs h
  have h' := TypeDesc.struct.inj (Option.some.inj (h.symm.trans Try.underlying28))
  subst h'
  refine ⟨?_, ?_, rfl, ?_⟩
  · show oneCellFields _ _ = true; kernel_rfl
  · show Try.prog.cellsOf 28 = 3; kernel_rfl
  · intro j f hj
    match j, hj with
    | 0, hj => cases hj; exact Try.underlying3
    | 1, hj => cases hj; exact Try.underlying3
    | 2, hj => cases hj; exact Try.underlying3

theorem readable : ∀ t ∈ Try.f12.params.toList, Try.prog.readableRec t = true ∧ t < Try.prog.types.size := by
  rw [Try.params12]
  intro t ht
  simp only [List.mem_cons, List.not_mem_nil, or_false] at ht
  rcases ht with rfl | rfl
  · exact ⟨by kernel_rfl, of_decide_eq_true (by kernel_rfl)⟩
  · exact ⟨by kernel_rfl, of_decide_eq_true (by kernel_rfl)⟩

set_option maxRecDepth 100000 in
theorem contract (H : Type) (enc : TypeId × Value → H) (W : World) (base : Nat) (args : Array Value) (ds gs : List (DataW H)) (before : List MemPlace)
    (hval : ∀ (j : Nat) t v, Try.f12.params[j]? = some t → args[j]? = some v → Value.okWide Try.prog W .any base t v)
    (hW : DataW.Whole enc Try.prog Try.f12.params.toList Rows.spreadGossipSpec.vars false W args.toList ds gs before) :
    Calls Try.prog 12 args W fun e W' => ∃ v, e = .returned v ∧ Rows.spreadGossipSpec.post enc Try.prog Try.f12 false true false false W args v W' := by
  have hW' := hW
  obtain ⟨p, q, hA0, hV, rfl, hfz, hnd⟩ := hW
  have hA : DataW.TrodAll enc Try.prog W 0 (fun _ => true) true Try.f12.params.toList args.toList ds p := hA0
  rw [Try.params12] at hA hval
  obtain ⟨v0, vs0, d0, ds0, p0, q0, hargs, rfl, rfl, h0, r0⟩ := trodAll_cons hA
  obtain ⟨v1, vs1, d1, ds1, p1, q1, rfl, rfl, rfl, h1, r1⟩ := trodAll_cons r0
  obtain ⟨rfl, rfl, rfl⟩ := trodAll_nil r1
  obtain rfl : args = #[v0, v1] := by cases args; simp_all
  obtain ⟨rfl, rfl⟩ := trodVars_none hV
  obtain ⟨a0, rfl, rfl, rfl, w0⟩ := open_int Try.underlying3 (hval 0 3 v0 rfl rfl) h0
  obtain ⟨q1, rfl, hl1, hw1, hm1⟩ := open_list (s := 1) Try.underlying92 (by show Try.prog.cellsOf 22 = 1; kernel_rfl) (by decide) (fun _ => rfl) (opens_slice (s := 3) Try.underlying22 (by show Try.prog.cellsOf 28 = 3; kernel_rfl) (by decide) (fun _ => rfl) (opens_N3 Try.underlying28 (hone _ Try.underlying28).1 (hone _ Try.underlying28).2.1 (hone _ Try.underlying28).2.2.1 (hone _ Try.underlying28).2.2.2)) (hval 1 92 v1 rfl rfl) h1
  clear hA0
  simp only [List.append_nil] at hW'
  exact contract_of (f := 12) (fn := Try.f12) (s := Rows.spreadGossipSpec) (gs := []) laid_out rfl readable Try.underlying4 rfl hW' rfl (SpreadGossip_w a0 hl1 (by simp only [maxLen] at hm1; omega) (fun q hq => (hw1 q hq).1) (fun q hq => by have h_ := (hw1 q hq).2.2; simp only [maxLen] at h_; omega))

set_option maxRecDepth 100000 in
theorem lifted (os : Os) (started : os.Started) (H : Type) (enc : TypeId × Value → H) :
    ReturnsInHanded {} Try.checked os 12 .any (Rows.spreadGossipSpec.pre6 enc Try.prog Try.f12 Rows.spreadGossipRow.domain false) (Rows.spreadGossipSpec.post enc Try.prog Try.f12 false true false false) := by
  refine returnsInHanded_of_change (C := Try.checked) own_knob started (by kernel_rfl) Try.func12
    (ChangeSpec.witness6 (enc := enc) (C := Try.checked) false ⟨#[], #[.int .i64 0, .slice none 0 0], []⟩ 8 (by kernel_rfl) (by kernel_rfl) (by kernel_rfl) (by kernel_rfl)) ?_
  intro W base args ds gs before hval hW hcnd _
  exact contract H enc W base args ds gs before hval hW

theorem over : Rows.spreadGossipRow.holds Try.pinned (OpenSpec.ofChange Rows.spreadGossipSpec) :=
  OpenClaim.holds_of_wide 12 Try.f12 rfl rfl rfl rfl rfl rfl rfl ⟨rfl, rfl, rfl, rfl, rfl⟩ rfl rfl rfl rfl rfl (by kernel_rfl) Try.func12 (by kernel_rfl)
    (of_decide_eq_true (by kernel_rfl)) (by unfold Func.isWrapper; first | (rw [if_pos (by decide +kernel)]; kernel_rfl) | (rw [if_neg (by decide +kernel)]; exact ⟨rfl, rfl⟩))
    (fun os started H enc _ => lifted os started H enc)

theorem proved : Rows.SpreadGossipSaid :=
  over
end Go.Proofs.Ytfdffeameoejfaa.spreadGossip
