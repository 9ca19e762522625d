/- '==' and '!=' of two arrays of whole numbers that are laid by one list each. -/
import Derived.ChangeKeysEq
namespace Go.Proofs.YtemioilfedpohaaDoor


/-- the cells of a row of numbers -/
def cwE (k : IntKind) (xs : List Nat) : Array Value := (xs.map fun (x : Nat) => Value.int k (x : Int)).toArray

theorem eqr_part {P : Program} {k : IntKind} {e : TypeId} (he : P.underlying e = some (.int k)) (xs : List Nat) (i : Nat) (h : i < xs.length) (w : World) :
    (part e (cwE k xs) (i * 1)).run P w = .ok (.int k (xs.getD i 0 : Nat)) w := by
  have hx : (cwE k xs)[i * 1]? = some (.int k (xs.getD i 0 : Nat)) := by simp [cwE, h]
  simp only [part, isAgg, Sem.run_bind, run_underlying he, Result.andThen_ok, Sem.run_pure, Bool.false_eq_true, if_false, hx]

theorem eqr_items {P : Program} {k : IntKind} {e : TypeId} (he : P.underlying e = some (.int k)) (d : Nat) (xs ys : List Nat) (w : World) :
    ∀ is : List Nat, (∀ i ∈ is, i < xs.length ∧ i < ys.length) → (Op.eqItems (d + 1) e 1 (cwE k xs) (cwE k ys) is).run P w = .ok (is.all fun i => xs.getD i 0 == ys.getD i 0) w
  | [], _ => rfl
  | i :: is, h => by
    have hi := h i (by simp)
    have ih := eqr_items he d xs ys w is (fun j hj => h j (by simp [hj]))
    have hb : (((xs.getD i 0 : Nat) : Int) == ((ys.getD i 0 : Nat) : Int)) = (xs.getD i 0 == ys.getD i 0) := by
      rw [Bool.eq_iff_iff]; simp only [beq_iff_eq]; omega
    simp only [Op.eqItems, Sem.run_bind, eqr_part he xs i hi.1 w, eqr_part he ys i hi.2 w, run_equalIn_int w d e k k _ _ he, Result.andThen_ok, hb, List.all_cons]
    cases (xs.getD i 0 == ys.getD i 0)
    · rfl
    · simpa using ih

theorem eqr_all : ∀ (xs ys : List Nat), xs.length = ys.length → ((List.range xs.length).all fun i => xs.getD i 0 == ys.getD i 0) = decide (xs = ys)
  | [], [], _ => rfl
  | x :: xs, y :: ys, h => by
    have ih := eqr_all xs ys (by simpa using h)
    rw [List.length_cons, List.range_succ_eq_map, List.all_cons, List.all_map]
    simp only [List.getD_cons_zero, Function.comp_def, List.getD_cons_succ, ih]
    rw [Bool.eq_iff_iff]
    simp
  | [], _ :: _, h => by simp at h
  | _ :: _, [], h => by simp at h

/-- '==' of two arrays of 'n' numbers -/
theorem eqr_eql {P : Program} {k : IntKind} {t e : TypeId} {n : Nat} {inf : TypeInfo} (ht : P.underlying t = some (.array n e)) (he : P.underlying e = some (.int k)) (hi : P.info? e = some inf) (hc : P.cellsOf e = 1)
    (xs ys : List Nat) (hx : xs.length = n) (hy : ys.length = n) (w : World) :
    (binOp .eql t (.agg (cwE k xs)) (.agg (cwE k ys))).run P w = .ok (.bool (decide (xs = ys))) w := by
  have h := run_equalIn_array (w := w) 9999 (cwE k xs) (cwE k ys) ht hi
  rw [hc, eqr_items he 9998 xs ys w _ (fun i hm => by have := List.mem_range.1 hm; omega), ← hx, eqr_all xs ys (hx.trans hy.symm)] at h
  rw [run_eql_struct, h]
  rfl
/-- '!=' of two arrays of 'n' numbers -/
theorem eqr_neq {P : Program} {k : IntKind} {t e : TypeId} {n : Nat} {inf : TypeInfo} (ht : P.underlying t = some (.array n e)) (he : P.underlying e = some (.int k)) (hi : P.info? e = some inf) (hc : P.cellsOf e = 1)
    (xs ys : List Nat) (hx : xs.length = n) (hy : ys.length = n) (w : World) :
    (binOp .neq t (.agg (cwE k xs)) (.agg (cwE k ys))).run P w = .ok (.bool (!decide (xs = ys))) w := by
  have h := run_equalIn_array (w := w) 9999 (cwE k xs) (cwE k ys) ht hi
  rw [hc, eqr_items he 9998 xs ys w _ (fun i hm => by have := List.mem_range.1 hm; omega), ← hx, eqr_all xs ys (hx.trans hy.symm)] at h
  rw [run_neq_struct, h]
  rfl
end Go.Proofs.YtemioilfedpohaaDoor
