/- What the functions answer, as plain functions. -/
import Derived.Test.YtfdffeameoejfaaData
namespace Go.Proofs.Ytfdffeameoejfaa
set_option linter.unusedSimpArgs false
set_option linter.unusedVariables false
open Go

def isTagB (t : Int) : Bool := decide (0 ≤ t) && decide (t ≤ 1048576)
def isKindB (k : Int) : Bool := decide (k = 1) || decide (k = 2)
def validB (n : Int) (x : N3) : Bool := decide (1 ≤ n) && decide (n ≤ 100) && decide (0 ≤ x.of) && decide (x.of < n) && isTagB x.tag && isKindB x.kind
def rank (x : N3) : Int := if isTagB x.tag then (if x.kind = 1 then 2 * x.tag else if x.kind = 2 then 2 * x.tag + 1 else -1) else -1
def beats (a b : N3) : Bool := decide (a.of = b.of) && (decide (0 ≤ rank b) && decide (rank b < rank a))
def fresh (of : Int) : N3 := ⟨of, 0, 1⟩
theorem isTagB_t {t : Int} (h : isTagB t = true) : 0 ≤ t ∧ t ≤ 1048576 := by simpa [isTagB] using h
theorem validB_t {n : Int} {x : N3} (h : validB n x = true) : (1 ≤ n ∧ n ≤ 100 ∧ 0 ≤ x.of ∧ x.of < n) ∧ isTagB x.tag = true ∧ isKindB x.kind = true := by
  simp only [validB, Bool.and_eq_true, decide_eq_true_eq] at h; exact ⟨⟨h.1.1.1.1.1, h.1.1.1.1.2, h.1.1.1.2, h.1.1.2⟩, h.1.2, h.2⟩
end Go.Proofs.Ytfdffeameoejfaa
