/- Regions that keep a condition on the world, walked by lemmas: the facts are left to the kernel. -/
import Derived.Test.YteidkdpfjponfaaDoorHold
import Derived.Laws.Rows
import Derived.Laws.Entries
namespace Go.Proofs.YteidkdpfjponfaaDoor
open Go.RowKit
set_option linter.unusedVariables false
set_option linter.unusedSimpArgs false
section
variable {P : Program} {ops : Array Oper} {S : World → Prop} {Q : Act → Prop} {a : Act} {o : Oper} {rest : List Oper}
/-- It yields v in whatever world. -/
theorem Hd.val (v : Value) (hg : Region.wanted o (yielded ops a.tmps) = true) (hv : ∀ w, (execOp a.eval o).run P w = .ok (.value v) w)
    (h : wpHold P ops S Q rest (a.put o.dst v)) : wpHold P ops S Q (o :: rest) a :=
  wpHold_yes v hg (fun w hw => gives_value hw (hv w)) h
/-- It yields v in each world that is meant. -/
theorem Hd.valS (v : Value) (hg : Region.wanted o (yielded ops a.tmps) = true) (hv : ∀ w, S w → (execOp a.eval o).run P w = .ok (.value v) w)
    (h : wpHold P ops S Q rest (a.put o.dst v)) : wpHold P ops S Q (o :: rest) a :=
  wpHold_yes v hg (fun w hw => gives_value hw (hv w hw)) h
theorem Hd.no (hg : Region.wanted o (yielded ops a.tmps) = false) (h : wpHold P ops S Q rest (a.put o.dst undef)) : wpHold P ops S Q (o :: rest) a := wpHold_no hg h
theorem Hd.skip (hg : Region.wanted o (yielded ops a.tmps) = true) (hv : ∀ w, (execOp a.eval o).run P w = .ok .skip w)
    (h : wpHold P ops S Q rest (a.put o.dst undef)) : wpHold P ops S Q (o :: rest) a :=
  wpHold_yes undef hg (fun w hw => by unfold Gives; rw [hv w]; exact ⟨rfl, hw⟩) h
theorem run_load_cell {t : TypeId} {p : Addr} {v : Value} {d : TypeDesc} (w : World) (hu : P.underlying t = some d) (hd : (match d with | .struct _ | .array _ _ => true | _ => false) = false) (hc : w.cell? p = some v) :
    (loadVar t p).run P w = .ok v w := by
  have hagg : (isAgg t).run P w = .ok false w := by
    unfold isAgg
    rw [Sem.run_bind, run_underlying hu w]
    cases d <;> simp_all
  simp [loadVar, Sem.run_bind, hagg, run_load, hc]
theorem exec_load_cell {t : TypeId} {x : Operand} {p : Addr} {v : Value} {d : TypeDesc} (w : World) (ho : o.op = .load t x) (hx : a.eval x = .pointer (some p)) (hu : P.underlying t = some d) (hd : (match d with | .struct _ | .array _ _ => true | _ => false) = false) (hc : w.cell? p = some v) :
    (execOp a.eval o).run P w = .ok (.value v) w := by
  unfold execOp
  simp only [ho, hx, Instr.loadAt, Instr.sureAddr, Sem.run_bind, Sem.run_pure, Result.andThen_ok, run_load_cell w hu hd hc]
theorem exec_load_row {t T : TypeId} {x : Operand} {g : Nat} {cs : Array Value} {fr : Nat × Nat} {d : TypeDesc} (w : World) (ho : o.op = .load t x) (hx : a.eval x = .pointer (some ⟨g, 0, none⟩)) (hu : P.underlying t = some d) (hd : (match d with | .struct _ | .array _ _ => true | _ => false) = true)
    (hi : (P.info? t).map (·.size) = some cs.size) (hc : w.heap[g]? = some (.cells cs T fr)) :
    (execOp a.eval o).run P w = .ok (.value (.agg cs)) w := by
  unfold execOp
  simp only [ho, hx, Instr.loadAt, Instr.sureAddr, Sem.run_bind, Sem.run_pure, Result.andThen_ok, run_loadVar_row w g T t cs fr d hc hu hd hi]
/-- A load of one cell. -/
theorem Hd.cell {t : TypeId} {x : Operand} {d : TypeDesc} (v : Value) (p : Addr) (hg : Region.wanted o (yielded ops a.tmps) = true) (ho : o.op = .load t x) (hx : a.eval x = .pointer (some p)) (hu : P.underlying t = some d)
    (hd : (match d with | .struct _ | .array _ _ => true | _ => false) = false) (hc : ∀ w, S w → w.cell? p = some v)
    (h : wpHold P ops S Q rest (a.put o.dst v)) : wpHold P ops S Q (o :: rest) a :=
  Hd.valS v hg (fun w hw => exec_load_cell w ho hx hu hd (hc w hw)) h
/-- A load of a whole struct. -/
theorem Hd.row {t T : TypeId} {x : Operand} {d : TypeDesc} {fr : Nat × Nat} (cs : Array Value) (g : Nat) (hg : Region.wanted o (yielded ops a.tmps) = true) (ho : o.op = .load t x) (hx : a.eval x = .pointer (some ⟨g, 0, none⟩)) (hu : P.underlying t = some d)
    (hd : (match d with | .struct _ | .array _ _ => true | _ => false) = true) (hi : (P.info? t).map (·.size) = some cs.size) (hc : ∀ w, S w → w.heap[g]? = some (.cells cs T fr))
    (h : wpHold P ops S Q rest (a.put o.dst (.agg cs))) : wpHold P ops S Q (o :: rest) a :=
  Hd.valS (.agg cs) hg (fun w hw => exec_load_row w ho hx hu hd hi (hc w hw)) h
/-- A call that keeps the condition. -/
theorem Hd.call {f : FuncId} {args : Array Value} (v : Value) (hg : Region.wanted o (yielded ops a.tmps) = true) (hop : ∀ w, (execOp a.eval o).run P w = .ok (.enter f args) w)
    (hc : ∀ w, S w → Calls P f args w fun e w' => e = .returned v ∧ S w')
    (h : wpHold P ops S Q rest (a.put o.dst v)) : wpHold P ops S Q (o :: rest) a :=
  wpHold_yes v hg (fun w hw => gives_call (hop w) (hc w hw)) h
/-- A comparison, or a reckoning, of two operands. -/
theorem exec_bin {op : BinOp} {t ty : TypeId} {x y : Operand} {X Y V : Value} (w : World) (ho : o.op = .binOp op t x y ty) (hx : a.eval x = X) (hy : a.eval y = Y) (hg : (eqGuard op t x y X Y).run P w = .ok () w) (h : (binOp op t X Y).run P w = .ok V w) :
    (execOp a.eval o).run P w = .ok (.value V) w := by
  unfold execOp
  simp only [ho, hx, hy, Sem.run_bind, hg, h, Result.andThen_ok, Sem.run_pure]
/-- An index into a slice of numbers. -/
theorem exec_index {t : TypeId} {x ix : Operand} {ad : Addr} {n c : Nat} {k : IntKind} (i : Nat) (w : World) (ho : o.op = .indexAddr t x ix) (hx : a.eval x = .slice (some ad) n c) (hi : a.eval ix = .int k (i : Int)) (hu : P.underlying t = some (.slice (P.elem t))) (hs : (P.info? (P.elem t)).map (·.size) = some 1) (hlt : i < n) :
    (execOp a.eval o).run P w = .ok (.value (.pointer (some (ad.add i)))) w := by
  cases hq : P.info? (P.elem t) with
  | none => simp [hq] at hs
  | some f =>
    have hs : f.size = 1 := by simpa [hq] using hs
    have hz : (sizeOf (P.elem t)).run P w = .ok 1 w := by simp [sizeOf, typeInfo, hq, hs]
    unfold execOp
    have hc : (0 : Int) ≤ (i : Int) ∧ (i : Int) < (n : Int) := by omega
    simp only [ho, hx, hi, Sem.run_bind, run_indexAt_slice w t ad n c k _ hu, if_pos hc, hz, Result.andThen_ok, Sem.run_pure, Int.toNat_natCast, Nat.mul_one]
/-- An index into an array of numbers. -/
theorem exec_index_arr {t : TypeId} {x ix : Operand} {b : Nat} {k : IntKind} (i n : Nat) (w : World) (ho : o.op = .indexAddr t x ix) (hx : a.eval x = .pointer (some ⟨b, 0, none⟩)) (hi : a.eval ix = .int k (i : Int)) (hu : P.underlying t = some (.array (P.arrayLen t) (P.elem t))) (hal : P.arrayLen t = n) (hs : (P.info? (P.elem t)).map (·.size) = some 1) (hlt : i < n) :
    (execOp a.eval o).run P w = .ok (.value (.pointer (some ⟨b, i, none⟩))) w := by
  cases hq : P.info? (P.elem t) with
  | none => simp [hq] at hs
  | some f =>
    have hs : f.size = 1 := by simpa [hq] using hs
    have hz : (sizeOf (P.elem t)).run P w = .ok 1 w := by simp [sizeOf, typeInfo, hq, hs]
    have hc : (0 : Int) ≤ (i : Int) ∧ (i : Int) < (P.arrayLen t : Int) := by rw [hal]; omega
    have hadd : (⟨b, 0, none⟩ : Addr).add i = ⟨b, i, none⟩ := by unfold Addr.add; split <;> simp_all
    unfold execOp
    simp only [ho, hx, hi, Sem.run_bind, run_indexAt_array w t _ k _ hu, if_pos hc, hz, Result.andThen_ok, Sem.run_pure, Int.toNat_natCast, Nat.mul_one, hadd]
theorem okB {b b' : Bool} {w : World} (h : b = b') : (Result.ok (Next.value (Value.bool b)) w) = Result.ok (Next.value (Value.bool b')) w := by rw [h]
theorem okI {k : IntKind} {x x' : Int} {w : World} (h : x = x') : (Result.ok (Next.value (Value.int k x)) w) = Result.ok (Next.value (Value.int k x')) w := by rw [h]
end
end Go.Proofs.YteidkdpfjponfaaDoor
