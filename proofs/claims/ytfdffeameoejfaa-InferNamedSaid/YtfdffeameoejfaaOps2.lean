/- Further operations: conversions, indices of strings. -/
import Derived.Test.YtfdffeameoejfaaDrawo
namespace Go.Proofs.Ytfdffeameoejfaa
set_option linter.unusedVariables false
open Go Go.RowKit
set_option linter.unusedSimpArgs false

section
variable {P : Program} {M : Nat} {l : Nat → Value} {w : World} {d : Option Tmp} {t T T' : TypeId} {p : String} {af : Array Edge} {g : Option (Nat × Bool)} {x y : Operand} {k k' : IntKind} {n c : Int}
theorem rn_cv {D : TypeDesc} (hS : P.underlying T = some D) (hT : P.underlying T' = some (.int k)) (hx : ev M l x = .int k' n) (hc : k.wrap n = c) : Rn P M l w d (.convert T T' x) t p af g (.int k c) := by
  subst hc
  simp [Rn, execOp, hx, convert, run_underlying hS, run_underlying hT, Conv.intToInt]
theorem rn_ixStr {s : ByteArray} {b : UInt8} {i : Nat} (hT : P.underlying T = some .string) (hx : ev M l x = .string s) (hy : ev M l y = .int k (i : Int)) (hb : s[i]? = some b) : Rn P M l w d (.index T x y) t p af g (.int .u8 b.toNat) := by
  have h0 : (0 : Int) ≤ (i : Int) := by omega
  simp [Rn, execOp, hx, hy, Instr.index, asIntOf, run_underlying hT, h0, hb]
end
end Go.Proofs.Ytfdffeameoejfaa
