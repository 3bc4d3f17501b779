/- Notices and sets held against each other. -/
import Derived.Test.YtfdffeameoejfaaPure
import Derived.Laws.StructEq
namespace Go.Proofs.Ytfdffeameoejfaa
set_option linter.unusedVariables false
open Go Go.RowKit
set_option linter.unusedSimpArgs false

theorem flds28 : Try.prog.fieldsOf 28 = #[{ name := "Of", type := 3, offset := 0, embedded := false, tag := "", pkgPath := "", byteOffset := 0 },
    { name := "Tag", type := 3, offset := 1, embedded := false, tag := "", pkgPath := "", byteOffset := 8 },
    { name := "Kind", type := 3, offset := 2, embedded := false, tag := "", pkgPath := "", byteOffset := 16 }] := by kernel_rfl
theorem und28 : Try.prog.underlying 28 = some (.struct (Try.prog.fieldsOf 28)) := by kernel_rfl
theorem held28 : Try.prog.stoodInHeld 28 = false := by kernel_rfl
theorem gt28 : Try.prog.eqGuardType Try.prog.depth 28 = false := by kernel_rfl
theorem gt34 : Try.prog.eqGuardType Try.prog.depth 34 = false := by kernel_rfl

theorem part3 (xs : List Value) (i : Nat) (v : Value) (w : World) (h : xs[i]? = some v) : (part 3 xs.toArray i).run Try.prog w = .ok v w := by
  simp [part, o3.1 w, h]
theorem part32 (xs : List Value) (i : Nat) (v : Value) (w : World) (h : xs[i]? = some v) : (part 32 xs.toArray i).run Try.prog w = .ok v w := by
  simp [part, o32.1 w, h]

theorem eqIn28 (d : Nat) (a b : N3) (w : World) : (Op.equalIn (d + 2) 28 (N3.val a) (N3.val b)).run Try.prog w = .ok (decide (a = b)) w := by
  obtain ⟨a0, a1, a2⟩ := a
  obtain ⟨b0, b1, b2⟩ := b
  show (Op.equalIn ((d + 1) + 1) 28 (.agg #[i64 a0, i64 a1, i64 a2]) (.agg #[i64 b0, i64 b1, i64 b2])).run Try.prog w = _
  rw [run_equalIn_agg w (d + 1) 28 _ _ und28 held28, flds28]
  have e3 : ∀ (m n : Int) (w : World), (Op.equalIn (d + 1) 3 (i64 m) (i64 n)).run Try.prog w = .ok (m == n) w := fun m n w => run_equalIn_int w d 3 .i64 .i64 m n Try.underlying3
  have p0 : ∀ (m n k : Int) (w : World), (part 3 #[i64 m, i64 n, i64 k] 0).run Try.prog w = .ok (i64 m) w := fun m n k w => part3 [i64 m, i64 n, i64 k] 0 _ w rfl
  have p1 : ∀ (m n k : Int) (w : World), (part 3 #[i64 m, i64 n, i64 k] 1).run Try.prog w = .ok (i64 n) w := fun m n k w => part3 [i64 m, i64 n, i64 k] 1 _ w rfl
  have p2 : ∀ (m n k : Int) (w : World), (part 3 #[i64 m, i64 n, i64 k] 2).run Try.prog w = .ok (i64 k) w := fun m n k w => part3 [i64 m, i64 n, i64 k] 2 _ w rfl
  simp only [Op.eqFields, Sem.run_bind, Sem.run_ite, p0, p1, p2, e3, Result.andThen_ok]
  by_cases h0 : a0 = b0 <;> by_cases h1 : a1 = b1 <;> by_cases h2 : a2 = b2 <;> simp [h0, h1, h2]

theorem eqIn34' (e : Nat) (a b : S4) (w : World) (e3 : ∀ (m n : Int) (w : World), (Op.equalIn e 32 (u32 m) (u32 n)).run Try.prog w = .ok (m == n) w) : (Op.equalIn (e + 1) 34 (S4.val a) (S4.val b)).run Try.prog w = .ok (decide (a = b)) w := by
  obtain ⟨a0, a1, a2, a3⟩ := a
  obtain ⟨b0, b1, b2, b3⟩ := b
  show (Op.equalIn (e + 1) 34 (.agg #[u32 a0, u32 a1, u32 a2, u32 a3]) (.agg #[u32 b0, u32 b1, u32 b2, u32 b3])).run Try.prog w = _
  have p0 : ∀ (m n k j : Int) (w : World), (part 32 #[u32 m, u32 n, u32 k, u32 j] 0).run Try.prog w = .ok (u32 m) w := fun m n k j w => part32 [u32 m, u32 n, u32 k, u32 j] 0 _ w rfl
  have p1 : ∀ (m n k j : Int) (w : World), (part 32 #[u32 m, u32 n, u32 k, u32 j] 1).run Try.prog w = .ok (u32 n) w := fun m n k j w => part32 [u32 m, u32 n, u32 k, u32 j] 1 _ w rfl
  have p2 : ∀ (m n k j : Int) (w : World), (part 32 #[u32 m, u32 n, u32 k, u32 j] 2).run Try.prog w = .ok (u32 k) w := fun m n k j w => part32 [u32 m, u32 n, u32 k, u32 j] 2 _ w rfl
  have p3 : ∀ (m n k j : Int) (w : World), (part 32 #[u32 m, u32 n, u32 k, u32 j] 3).run Try.prog w = .ok (u32 j) w := fun m n k j w => part32 [u32 m, u32 n, u32 k, u32 j] 3 _ w rfl
  have hu := fun w => underlying_run Try.underlying34 w
  have hs := fun w => o32.2 w
  simp only [Op.equalIn, Sem.run_bind, hu, Result.andThen_ok, hs, Std.Legacy.Range.forIn_eq_forIn_range', Std.Legacy.Range.size]
  simp only [Nat.sub_zero, Nat.add_one_sub_one, Nat.div_one, List.range'_succ, List.range'_zero, List.forIn_cons, List.forIn_nil, Nat.zero_mul, Nat.zero_add, Nat.reduceAdd, Nat.one_mul, Nat.mul_one, Sem.run_bind, Sem.run_ite, p0, p1, p2, p3, e3, Result.andThen_ok]
  by_cases h0 : a0 = b0 <;> by_cases h1 : a1 = b1 <;> by_cases h2 : a2 = b2 <;> by_cases h3 : a3 = b3 <;> simp [h0, h1, h2, h3, p0, p1, p2, p3, e3]

theorem eqIn34 (d : Nat) (a b : S4) (w : World) : (Op.equalIn (d + 2) 34 (S4.val a) (S4.val b)).run Try.prog w = .ok (decide (a = b)) w :=
  eqIn34' (d + 1) a b w (fun m n w => run_equalIn_int w d 32 .u32 .u32 m n Try.underlying32)

section
variable {M : Nat} {l : Nat → Value} {w : World} {d : Option Tmp} {t T' : TypeId} {p : String} {af : Array Edge} {g : Option (Nat × Bool)} {x y : Operand}
theorem eq28 {a b : N3} (hx : ev M l x = N3.val a) (hy : ev M l y = N3.val b) : Rn Try.prog M l w d (.binOp .eql 28 x y T') t p af g (.bool (decide (a = b))) := by
  have h := eqIn28 9998 a b w
  have hg := run_eqGuard_agg (P := Try.prog) w .eql 28 x y a.cells.toArray b.cells.toArray gt28
  simp only [Rn, execOp, hx, hy, N3.val, Sem.run_bind, hg, Result.andThen_ok, run_eql_struct]
  simp only [N3.val] at h
  rw [h]; rfl
theorem ne28 {a b : N3} (hx : ev M l x = N3.val a) (hy : ev M l y = N3.val b) : Rn Try.prog M l w d (.binOp .neq 28 x y T') t p af g (.bool (!(decide (a = b)))) := by
  have h := eqIn28 9998 a b w
  have hg := run_eqGuard_agg (P := Try.prog) w .neq 28 x y a.cells.toArray b.cells.toArray gt28
  simp only [Rn, execOp, hx, hy, N3.val, Sem.run_bind, hg, Result.andThen_ok, run_neq_struct]
  simp only [N3.val] at h
  rw [h]; rfl
theorem eq34 {a b : S4} (hx : ev M l x = S4.val a) (hy : ev M l y = S4.val b) : Rn Try.prog M l w d (.binOp .eql 34 x y T') t p af g (.bool (decide (a = b))) := by
  have h := eqIn34 9998 a b w
  have hg := run_eqGuard_agg (P := Try.prog) w .eql 34 x y a.cells.toArray b.cells.toArray gt34
  simp only [Rn, execOp, hx, hy, S4.val, Sem.run_bind, hg, Result.andThen_ok, run_eql_struct]
  simp only [S4.val] at h
  rw [h]; rfl
theorem ne34 {a b : S4} (hx : ev M l x = S4.val a) (hy : ev M l y = S4.val b) : Rn Try.prog M l w d (.binOp .neq 34 x y T') t p af g (.bool (!(decide (a = b)))) := by
  have h := eqIn34 9998 a b w
  have hg := run_eqGuard_agg (P := Try.prog) w .neq 34 x y a.cells.toArray b.cells.toArray gt34
  simp only [Rn, execOp, hx, hy, S4.val, Sem.run_bind, hg, Result.andThen_ok, run_neq_struct]
  simp only [S4.val] at h
  rw [h]; rfl
theorem eqBool {a b : Bool} {T : TypeId} (hT : Try.prog.underlying T = some .bool) (hx : ev M l x = .bool a) (hy : ev M l y = .bool b) : Rn Try.prog M l w d (.binOp .eql T x y T') t p af g (.bool (a == b)) := by
  have h := run_equalIn_bool' (P := Try.prog) w 9999 T a b hT
  have hg : (eqGuard .eql T x y (.bool a) (.bool b)).run Try.prog w = .ok () w := by simp [eqGuard]
  simp only [Rn, execOp, hx, hy, Sem.run_bind, hg, Result.andThen_ok, binOp, Op.equal, Op.maxDepth]
  rw [h]; rfl
theorem neBool {a b : Bool} {T : TypeId} (hT : Try.prog.underlying T = some .bool) (hx : ev M l x = .bool a) (hy : ev M l y = .bool b) : Rn Try.prog M l w d (.binOp .neq T x y T') t p af g (.bool (!(a == b))) := by
  have h := run_equalIn_bool' (P := Try.prog) w 9999 T a b hT
  have hg : (eqGuard .neq T x y (.bool a) (.bool b)).run Try.prog w = .ok () w := by simp [eqGuard]
  simp only [Rn, execOp, hx, hy, Sem.run_bind, hg, Result.andThen_ok, binOp, Op.equal, Op.maxDepth]
  rw [h]; rfl
end
end Go.Proofs.Ytfdffeameoejfaa
