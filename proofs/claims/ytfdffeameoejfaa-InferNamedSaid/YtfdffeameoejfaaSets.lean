/- Sets, as plain functions on four words. -/
import Derived.Test.YtfdffeameoejfaaEqs
namespace Go.Proofs.Ytfdffeameoejfaa
set_option linter.unusedVariables false
open Go
set_option linter.unusedSimpArgs false

def isIdB (i : Int) : Bool := decide (0 ≤ i) && decide (i < 100)
theorem isIdB_t {i : Int} (h : isIdB i = true) : 0 ≤ i ∧ i < 100 := by simpa [isIdB] using h
theorem isIdB_f {i : Int} (h : isIdB i = false) : ¬ (0 ≤ i ∧ i < 100) := by
  intro h'; simp [isIdB] at h; omega

def lowm (e : Int) : Int := IntKind.u32.wrap (IntKind.u32.wrap (1 * 2 ^ e.toNat) - 1)
def upToS (n : Int) : S4 := ⟨lowm (imn (imx (n - 0) 0) 32), lowm (imn (imx (n - 32) 0) 32), lowm (imn (imx (n - 64) 0) 32), lowm (imn (imx (n - 96) 0) 32)⟩
def map2 (φ : Int → Int → Int) (a b : S4) : S4 := ⟨φ a.a b.a, φ a.b b.b, φ a.c b.c, φ a.d b.d⟩
def cleanS (s : S4) : S4 := map2 (bAnd .u32) s (upToS 100)
def withinB (s : S4) (n : Int) : Bool := decide (map2 (bAnd .u32) s (upToS (imn (imx n 0) 100)) = s)
def S4.get (s : S4) : Nat → Int
  | 0 => s.a
  | 1 => s.b
  | 2 => s.c
  | _ => s.d
def S4.upd (s : S4) (i : Nat) (v : Int) : S4 :=
  match i with
  | 0 => { s with a := v }
  | 1 => { s with b := v }
  | 2 => { s with c := v }
  | _ => { s with d := v }
theorem S4.get_cell (s : S4) {i : Nat} (h : i < 4) : (S4.cells s)[i]? = some (u32 (s.get i)) := by
  match i, h with
  | 0, _ => rfl
  | 1, _ => rfl
  | 2, _ => rfl
  | 3, _ => rfl
theorem S4.upd_cell (s : S4) {i : Nat} (h : i < 4) (v : Int) : splice (S4.cells s) i [u32 v] = S4.cells (s.upd i v) := by
  match i, h with
  | 0, _ => rfl
  | 1, _ => rfl
  | 2, _ => rfl
  | 3, _ => rfl
def S4.has (s : S4) (k : Nat) : Bool := decide (bAnd .u32 ((s.get (k / 32)).fdiv (2 ^ (k % 32))) 1 = 1)
def hasB (s : S4) (i : Int) : Bool := isIdB i && s.has i.toNat
def withS (s : S4) (k : Nat) : S4 := (cleanS s).upd (k / 32) (bOr .u32 ((cleanS s).get (k / 32)) (IntKind.u32.wrap (1 * 2 ^ (k % 32))))
def unionS (a b : S4) : S4 := cleanS (map2 (bOr .u32) a b)
def meetS (a b : S4) : S4 := cleanS (map2 (bAnd .u32) a b)
def lessS (a b : S4) : S4 := cleanS (map2 (bAndNot .u32) a b)

theorem imn_b {n m : Int} (h0 : 0 ≤ n) (h1 : 0 ≤ m) : 0 ≤ imn n m ∧ imn n m ≤ m := by unfold imn; split <;> omega
theorem imx_b (n : Int) : 0 ≤ imx n 0 := by unfold imx; split <;> omega
theorem some_b (n : Int) : 0 ≤ imn (imx n 0) 32 ∧ imn (imx n 0) 32 ≤ 32 := imn_b (imx_b n) (by decide)
theorem hund_b (n : Int) : 0 ≤ imn (imx n 0) 100 ∧ imn (imx n 0) 100 ≤ 100 := imn_b (imx_b n) (by decide)

theorem k_div (k : Nat) (h : k < 1000) : IntKind.i64.wrap ((k : Int).tdiv 32) = ((k / 32 : Nat) : Int) := by
  have e : (k : Int).tdiv 32 = ((k / 32 : Nat) : Int) := rfl
  rw [e, wr64 (by omega) (by omega)]
theorem k_mod (k : Nat) : (k : Int).tmod 32 = ((k % 32 : Nat) : Int) := rfl

/-- The ids of a set, rising. -/
def idsS (s : S4) : List Nat := (List.range 100).filter s.has
def cnt (s : S4) (i : Nat) : Nat := ((List.range i).filter s.has).length
theorem cnt_succ (s : S4) (i : Nat) : cnt s (i + 1) = cnt s i + if s.has i then 1 else 0 := by
  unfold cnt
  rw [List.range_succ, List.filter_append, List.length_append]
  by_cases h : s.has i = true <;> simp [h]
theorem ids_at (s : S4) {i : Nat} (h : i < 100) (hs : s.has i = true) : (idsS s)[cnt s i]? = some i := by
  unfold idsS cnt
  have : List.range 100 = List.range i ++ (i :: (List.range (99 - i)).map (fun j => i + 1 + j)) := by
    have h1 : List.range 100 = List.range i ++ (List.range (100 - i)).map (fun j => i + j) := by
      rw [← List.range_add]; congr 1; omega
    rw [h1]; congr 1
    rw [show 100 - i = (99 - i) + 1 by omega, List.range_succ_eq_map]
    simp [Function.comp_def, Nat.add_assoc, Nat.add_comm 1]
  rw [this, List.filter_append, List.filter_cons, if_pos hs]
  rw [List.getElem?_append_right (Nat.le_refl _), Nat.sub_self]; rfl
theorem cnt_all (s : S4) : cnt s 100 = (idsS s).length := rfl
theorem cnt_le (s : S4) {i : Nat} (h : i ≤ 100) : cnt s i ≤ (idsS s).length := by
  rw [← cnt_all]
  have key : ∀ d, cnt s i ≤ cnt s (i + d) := by
    intro d
    induction d with
    | zero => exact Nat.le_refl _
    | succ d ih => rw [← Nat.add_assoc, cnt_succ]; omega
  have := key (100 - i)
  rwa [show i + (100 - i) = 100 by omega] at this
theorem cnt_lt (s : S4) {i : Nat} (h : i < 100) (hs : s.has i = true) : cnt s i < (idsS s).length := by
  have := cnt_le s (i := i + 1) (by omega)
  rw [cnt_succ, if_pos hs] at this
  omega
end Go.Proofs.Ytfdffeameoejfaa
